/-
  The document's message (Told), of one that came in; a message cut (Few).
-/
import Derived.Test.YtjlfoiocceepjaaMsg
namespace Go.Proofs.Ytjlfoiocceepjaa
open Go.RowKit Go.Proofs.YtjlfoiocceepjaaW.PrintWords Go.Proofs.YtjlfoiocceepjaaW.PrintLast Go.Proofs.YtjlfoiocceepjaaW.PrintMore
set_option linter.unusedVariables false
set_option linter.unusedSimpArgs false

theorem Blk.msgS {W : World} {g : Nat} {t : TypeId} {n : Nat → Int} {A : Option Addr} {l c : Nat} {s : ByteArray} (h : Blk W g t (msgC n (.slice A l c) s)) : W.cell? ⟨g, 0, none⟩ = some (.int .i64 (n 0)) ∧ W.cell? ⟨g, 1, none⟩ = some (.int .i64 (n 1)) ∧ W.cell? ⟨g, 2, none⟩ = some (.int .i64 (n 2)) ∧ W.cell? ⟨g, 3, none⟩ = some (.int .i64 (n 3)) ∧ W.cell? ⟨g, 4, none⟩ = some (.int .i64 (n 4)) ∧ W.cell? ⟨g, 5, none⟩ = some (.int .i64 (n 5)) ∧ W.cell? ⟨g, 6, none⟩ = some (.int .i64 (n 6)) ∧ W.cell? ⟨g, 7, none⟩ = some (.int .i64 (n 7)) ∧ W.cell? ⟨g, 8, none⟩ = some (.int .i64 (n 8)) ∧ W.cell? ⟨g, 9, none⟩ = some (.int .i64 (n 9)) ∧ W.cell? ⟨g, 10, none⟩ = some (.slice A l c) ∧ W.cell? ⟨g, 11, none⟩ = some (.string s) :=
  ⟨h.cell 0, h.cell 1, h.cell 2, h.cell 3, h.cell 4, h.cell 5, h.cell 6, h.cell 7, h.cell 8, h.cell 9, h.cell 10, h.cell 11⟩
theorem aggRef : AggTy Try.prog 60 := ⟨_, Try.underlying60, rfl⟩
theorem sizeRef : (Try.prog.info? 60).map (·.size) = some 12 := by kernel_rfl
def zeroR : Array Value := msgC (fun _ => 0) (.slice none 0 0) ⟨#[]⟩
theorem KI_out_far {w w' : World} {B b : Nat} {v : Value} {xs : List Int} (h : KI.R 3 w B All v xs) (f : Far b w w') (hB : b < B) : KI.R 3 w' B All v xs := KI_far_all h f hB
section
variable {P : Program} {ops : Array Oper} {Q : Exit → Act → World → Prop}
/-- 'x = y' of a struct, in a region that draws its order -/
theorem step_store_part (w : World) {o : Oper} {a : Act} {K : Act → World → Prop} (hw : Region.wanted o (yielded ops a.tmps) = true) (hN : o.dst = none) (pa va : Operand) (T : TypeId) (ho : o.op = .store T pa va)
    (b off : Nat) (ys : Array Value) (hp : a.eval pa = .pointer (some ⟨b, off, none⟩)) (hv : a.eval va = .agg ys) (hi : (P.info? T).map (·.size) = some ys.size) (h1 : ys.toList.all (·.oneCell') = true)
    (t : TypeId) (cs : Array Value) (hb : Blk w b t cs) (hfit : off + ys.size ≤ cs.size) (zs : Array Value) (hz : zs = (cs.toList.take off ++ ys.toList ++ cs.toList.drop (off + ys.size)).toArray)
    (h : ∀ w', Blk w' b t zs → Far b w w' → K (a.put none undef) w') : if Region.wanted o (yielded ops a.tmps) = true then Oper.wp P o a w K Q else K (a.put none undef) w := by
  rw [if_pos hw]
  have hr := run_store_part (P := P) w b off T t cs ys hb hi h1 hfit
  have hrow := hb.row zs
  rw [← hz] at hr
  unfold Oper.wp execOp
  simp only [ho, Sem.run_bind, Sem.run_pure, Result.andThen_ok, hp, hv, hr]
  have h2 := h _ hrow (Far.of_setRow w b zs)
  rw [← hN] at h2
  exact h2
/-- 'x' of a struct, read there -/
theorem exec_load_part (w : World) {o : Oper} {a : Act} (pa : Operand) (T : TypeId) (ho : o.op = .load T pa) (b off : Nat) (ys : Array Value) (hp : a.eval pa = .pointer (some ⟨b, off, none⟩)) (hT : AggTy P T) (hi : (P.info? T).map (·.size) = some ys.size)
    (t : TypeId) (cs : Array Value) (hw : Blk w b t cs) (hy : ∀ j v, ys.toList[j]? = some v → cs[off + j]? = some v) : (execOp a.eval o).run P w = .ok (.value (.agg ys)) w := by
  have hr := run_load_part w b off T t cs ys hw hT hi hy
  unfold execOp
  simp only [ho, Sem.run_bind, Sem.run_pure, Result.andThen_ok, hp, hr]
end
set_option maxRecDepth 100000 in
set_option maxHeartbeats 8000000 in
theorem told_any (n : Nat → Int) (A : Option Addr) (c : Nat) (ts : List Int) (s : ByteArray) (w : World) (hr : KI.C w A ts.length ts) (hc : ts.length ≤ c) (hcm : c ≤ 9223372036854775807) :
    Calls Try.prog 16 #[.agg (msgC n (.slice A ts.length c) s)] w fun e w' => ∃ (A' : Option Addr) (c' : Nat), e = .returned (.agg (msgC n (.slice A' (ts.take 140).length c') (str (s.data.toList.take 1000)))) ∧ KI.R 3 w' w.heap.size All (.slice A' (ts.take 140).length c') (ts.take 140) ∧ Below w.heap.size w w' := by
  obtain ⟨ts2, hts2⟩ : ∃ ts2, ts2 = ts.take 140 := ⟨_, rfl⟩
  obtain ⟨s2, hs2⟩ : ∃ s2, s2 = str (s.data.toList.take 1000) := ⟨_, rfl⟩
  have HF : Hid (∀ V, Below w.heap.size w V → Calls Try.prog 9 #[.slice A ts.length c, .int .i64 140] V fun e w' => ∃ v : Value, e = .returned v ∧ KI.R 3 w' V.heap.size All v ts2 ∧ Below V.heap.size V w') := Lib.hid (fun V hV => by rw [hts2]; exact few_any A c ts 140 (by omega) V (Kd.C_below hr hV) hc hcm)
  have HC : Hid (∀ V, Calls Try.prog 7 #[.string s, .int .i64 1000] V fun e w' => e = .returned (.string s2) ∧ Below V.heap.size V w') := Lib.hid (fun V => by rw [hs2]; exact cut_any s 1000 (by omega) V)
  rw [← hts2, ← hs2]
  clear hts2 hs2 hr
  have HBe := Lib.hid (Below.refl w.heap.size w)
  have hu48 := Try.underlying51
  have hu54 := Try.underlying60
  unfold msgC
  go_enter Try.func16, Try.ntmps16
  go_wp2_with (first
    | ((with_reducible refine gate_dst (N := 1) rfl ?_); refine box_event rfl (N := 1) rfl (cs := msgC n (.slice A ts.length c) s) (t := 51) ?hr ?_; (case hr => first | (go_simp; done) | (go_simp; rfl)); intro g hg W1 hbox hb; have HGe := Lib.hid (Nat.le_of_eq hg.symm); clear hg; have HX := Lib.hid (show Blk W1 g 51 (msgC n (.slice A ts.length c) s) from hbox); have HB := Lib.hid (HBe.out.trans (hb.mono HBe.out.size)); clear hb hbox)
    | ((with_reducible refine gate_dst (N := 2) rfl ?_); refine box_event rfl (N := 2) rfl (cs := zeroR) (t := 60) ?hr ?_; (case hr => first | (go_simp; done) | (go_simp; rfl)); intro h hh W2 hbox hb; have HLo := Lib.hid (show w.heap.size ≤ h by rw [hh]; exact HB.out.size); have HL2 := Lib.hid (show h < W2.heap.size from Blk.lt hbox); clear hh; have HX0 := Lib.hid (HX.out.out hb); have HY0 := Lib.hid (show Blk W2 h 60 zeroR from hbox); have HB0 := Lib.hid (HB.out.trans (hb.mono HB.out.size)); clear hb hbox HX HB)
    | fail)
  replace HX0 : Hid (Blk W2.drew g 51 (msgC n (.slice A ts.length c) s)) := Lib.hid HX0.out.drew
  replace HY0 : Hid (Blk W2.drew h 60 zeroR) := Lib.hid HY0.out.drew
  replace HB0 : Hid (Below w.heap.size w W2.drew) := Lib.hid HB0.out.drew
  replace HL2 : Hid (h < W2.drew.heap.size) := Lib.hid HL2.out
  refine start_ (n := 29) (S := fun W' => W'.cell? ⟨g, 0, none⟩ = some (.int .i64 (n 0)) ∧ W'.cell? ⟨g, 1, none⟩ = some (.int .i64 (n 1)) ∧ W'.cell? ⟨g, 2, none⟩ = some (.int .i64 (n 2)) ∧ W'.cell? ⟨g, 3, none⟩ = some (.int .i64 (n 3)) ∧ W'.cell? ⟨g, 4, none⟩ = some (.int .i64 (n 4)) ∧ W'.cell? ⟨g, 5, none⟩ = some (.int .i64 (n 5)) ∧ W'.cell? ⟨g, 6, none⟩ = some (.int .i64 (n 6)) ∧ W'.cell? ⟨g, 7, none⟩ = some (.int .i64 (n 7)) ∧ W'.cell? ⟨g, 8, none⟩ = some (.int .i64 (n 8)) ∧ W'.cell? ⟨g, 9, none⟩ = some (.int .i64 (n 9)) ∧ W'.cell? ⟨g, 10, none⟩ = some (.slice A ts.length c) ∧ W'.cell? ⟨g, 11, none⟩ = some (.string s)) (ds := [28]) #[false, false, false, false, false, false, false, false, false, false, false, false, false, false, false, false, false, false, false, false, false, false, false, false, false, false, false, false, false] (by kernel_rfl) rfl rfl (HX0.out.msgS) (fun hHeld => ?_)
  refine pure_ (i := 0) (N := some 3) (v := ?_) (a' := ?_) #[true, false, false, false, false, false, false, false, false, false, false, false, false, false, false, false, false, false, false, false, false, false, false, false, false, false, false, false, false] rfl rfl (by kernel_rfl) (fun _ _ _ h => h) (Or.inl ⟨by rfl, ?_⟩) ?_ ?_
  rotate_left
  · intro w'
    go_simp
    (try with_reducible rfl)
  rotate_left
  · simp only [Act.put, List.setIfInBounds_toArray, List.set_cons_zero, List.set_cons_succ]
    rfl
  refine pure_ (i := 2) (N := some 5) (v := ?_) (a' := ?_) #[true, false, true, false, false, false, false, false, false, false, false, false, false, false, false, false, false, false, false, false, false, false, false, false, false, false, false, false, false] rfl rfl (by kernel_rfl) (fun _ _ _ h => h) (Or.inl ⟨by rfl, ?_⟩) ?_ ?_
  rotate_left
  · intro w'
    go_simp
    (try with_reducible rfl)
  rotate_left
  · simp only [Act.put, List.setIfInBounds_toArray, List.set_cons_zero, List.set_cons_succ]
    rfl
  refine pure_ (i := 4) (N := some 7) (v := ?_) (a' := ?_) #[true, false, true, false, true, false, false, false, false, false, false, false, false, false, false, false, false, false, false, false, false, false, false, false, false, false, false, false, false] rfl rfl (by kernel_rfl) (fun _ _ _ h => h) (Or.inl ⟨by rfl, ?_⟩) ?_ ?_
  rotate_left
  · intro w'
    go_simp
    (try with_reducible rfl)
  rotate_left
  · simp only [Act.put, List.setIfInBounds_toArray, List.set_cons_zero, List.set_cons_succ]
    rfl
  refine pure_ (i := 6) (N := some 9) (v := ?_) (a' := ?_) #[true, false, true, false, true, false, true, false, false, false, false, false, false, false, false, false, false, false, false, false, false, false, false, false, false, false, false, false, false] rfl rfl (by kernel_rfl) (fun _ _ _ h => h) (Or.inl ⟨by rfl, ?_⟩) ?_ ?_
  rotate_left
  · intro w'
    go_simp
    (try with_reducible rfl)
  rotate_left
  · simp only [Act.put, List.setIfInBounds_toArray, List.set_cons_zero, List.set_cons_succ]
    rfl
  refine pure_ (i := 8) (N := some 11) (v := ?_) (a' := ?_) #[true, false, true, false, true, false, true, false, true, false, false, false, false, false, false, false, false, false, false, false, false, false, false, false, false, false, false, false, false] rfl rfl (by kernel_rfl) (fun _ _ _ h => h) (Or.inl ⟨by rfl, ?_⟩) ?_ ?_
  rotate_left
  · intro w'
    go_simp
    (try with_reducible rfl)
  rotate_left
  · simp only [Act.put, List.setIfInBounds_toArray, List.set_cons_zero, List.set_cons_succ]
    rfl
  refine pure_ (i := 10) (N := some 13) (v := ?_) (a' := ?_) #[true, false, true, false, true, false, true, false, true, false, true, false, false, false, false, false, false, false, false, false, false, false, false, false, false, false, false, false, false] rfl rfl (by kernel_rfl) (fun _ _ _ h => h) (Or.inl ⟨by rfl, ?_⟩) ?_ ?_
  rotate_left
  · intro w'
    go_simp
    (try with_reducible rfl)
  rotate_left
  · simp only [Act.put, List.setIfInBounds_toArray, List.set_cons_zero, List.set_cons_succ]
    rfl
  refine pure_ (i := 12) (N := some 15) (v := ?_) (a' := ?_) #[true, false, true, false, true, false, true, false, true, false, true, false, true, false, false, false, false, false, false, false, false, false, false, false, false, false, false, false, false] rfl rfl (by kernel_rfl) (fun _ _ _ h => h) (Or.inl ⟨by rfl, ?_⟩) ?_ ?_
  rotate_left
  · intro w'
    go_simp
    (try with_reducible rfl)
  rotate_left
  · simp only [Act.put, List.setIfInBounds_toArray, List.set_cons_zero, List.set_cons_succ]
    rfl
  refine pure_ (i := 14) (N := some 17) (v := ?_) (a' := ?_) #[true, false, true, false, true, false, true, false, true, false, true, false, true, false, true, false, false, false, false, false, false, false, false, false, false, false, false, false, false] rfl rfl (by kernel_rfl) (fun _ _ _ h => h) (Or.inl ⟨by rfl, ?_⟩) ?_ ?_
  rotate_left
  · intro w'
    go_simp
    (try with_reducible rfl)
  rotate_left
  · simp only [Act.put, List.setIfInBounds_toArray, List.set_cons_zero, List.set_cons_succ]
    rfl
  refine pure_ (i := 16) (N := some 19) (v := ?_) (a' := ?_) #[true, false, true, false, true, false, true, false, true, false, true, false, true, false, true, false, true, false, false, false, false, false, false, false, false, false, false, false, false] rfl rfl (by kernel_rfl) (fun _ _ _ h => h) (Or.inl ⟨by rfl, ?_⟩) ?_ ?_
  rotate_left
  · intro w'
    go_simp
    (try with_reducible rfl)
  rotate_left
  · simp only [Act.put, List.setIfInBounds_toArray, List.set_cons_zero, List.set_cons_succ]
    rfl
  refine pure_ (i := 18) (N := some 21) (v := ?_) (a' := ?_) #[true, false, true, false, true, false, true, false, true, false, true, false, true, false, true, false, true, false, true, false, false, false, false, false, false, false, false, false, false] rfl rfl (by kernel_rfl) (fun _ _ _ h => h) (Or.inl ⟨by rfl, ?_⟩) ?_ ?_
  rotate_left
  · intro w'
    go_simp
    (try with_reducible rfl)
  rotate_left
  · simp only [Act.put, List.setIfInBounds_toArray, List.set_cons_zero, List.set_cons_succ]
    rfl
  refine pure_ (i := 21) (N := some 24) (v := ?_) (a' := ?_) #[true, false, true, false, true, false, true, false, true, false, true, false, true, false, true, false, true, false, true, false, false, true, false, false, false, false, false, false, false] rfl rfl (by kernel_rfl) (fun _ _ _ h => h) (Or.inl ⟨by rfl, ?_⟩) ?_ ?_
  rotate_left
  · intro w'
    go_simp
    (try with_reducible rfl)
  rotate_left
  · simp only [Act.put, List.setIfInBounds_toArray, List.set_cons_zero, List.set_cons_succ]
    rfl
  refine pure_ (i := 24) (N := some 27) (v := ?_) (a' := ?_) #[true, false, true, false, true, false, true, false, true, false, true, false, true, false, true, false, true, false, true, false, false, true, false, false, true, false, false, false, false] rfl rfl (by kernel_rfl) (fun _ _ _ h => h) (Or.inl ⟨by rfl, ?_⟩) ?_ ?_
  rotate_left
  · intro w'
    go_simp
    (try with_reducible rfl)
  rotate_left
  · simp only [Act.put, List.setIfInBounds_toArray, List.set_cons_zero, List.set_cons_succ]
    rfl
  refine take_ (i := 1) (N := some 4) (v := ?_) (a' := ?_) #[true, true, true, false, true, false, true, false, true, false, true, false, true, false, true, false, true, false, true, false, false, true, false, false, true, false, false, false, false] rfl rfl (by kernel_rfl) (fun _ _ _ h => h) (Or.inl ⟨by rfl, ?_⟩) hHeld ?_ ?_
  rotate_left
  · intro w' s0
    (try dsimp only at s0)
    obtain ⟨t0, t1, t2, t3, t4, t5, t6, t7, t8, t9, t10, t11⟩ := s0
    go_simp
    (try with_reducible rfl)
  rotate_left
  · simp only [Act.put, List.setIfInBounds_toArray, List.set_cons_zero, List.set_cons_succ]
    rfl
  refine take_ (i := 3) (N := some 6) (v := ?_) (a' := ?_) #[true, true, true, true, true, false, true, false, true, false, true, false, true, false, true, false, true, false, true, false, false, true, false, false, true, false, false, false, false] rfl rfl (by kernel_rfl) (fun _ _ _ h => h) (Or.inl ⟨by rfl, ?_⟩) hHeld ?_ ?_
  rotate_left
  · intro w' s0
    (try dsimp only at s0)
    obtain ⟨t0, t1, t2, t3, t4, t5, t6, t7, t8, t9, t10, t11⟩ := s0
    go_simp
    (try with_reducible rfl)
  rotate_left
  · simp only [Act.put, List.setIfInBounds_toArray, List.set_cons_zero, List.set_cons_succ]
    rfl
  refine take_ (i := 5) (N := some 8) (v := ?_) (a' := ?_) #[true, true, true, true, true, true, true, false, true, false, true, false, true, false, true, false, true, false, true, false, false, true, false, false, true, false, false, false, false] rfl rfl (by kernel_rfl) (fun _ _ _ h => h) (Or.inl ⟨by rfl, ?_⟩) hHeld ?_ ?_
  rotate_left
  · intro w' s0
    (try dsimp only at s0)
    obtain ⟨t0, t1, t2, t3, t4, t5, t6, t7, t8, t9, t10, t11⟩ := s0
    go_simp
    (try with_reducible rfl)
  rotate_left
  · simp only [Act.put, List.setIfInBounds_toArray, List.set_cons_zero, List.set_cons_succ]
    rfl
  refine take_ (i := 7) (N := some 10) (v := ?_) (a' := ?_) #[true, true, true, true, true, true, true, true, true, false, true, false, true, false, true, false, true, false, true, false, false, true, false, false, true, false, false, false, false] rfl rfl (by kernel_rfl) (fun _ _ _ h => h) (Or.inl ⟨by rfl, ?_⟩) hHeld ?_ ?_
  rotate_left
  · intro w' s0
    (try dsimp only at s0)
    obtain ⟨t0, t1, t2, t3, t4, t5, t6, t7, t8, t9, t10, t11⟩ := s0
    go_simp
    (try with_reducible rfl)
  rotate_left
  · simp only [Act.put, List.setIfInBounds_toArray, List.set_cons_zero, List.set_cons_succ]
    rfl
  refine take_ (i := 9) (N := some 12) (v := ?_) (a' := ?_) #[true, true, true, true, true, true, true, true, true, true, true, false, true, false, true, false, true, false, true, false, false, true, false, false, true, false, false, false, false] rfl rfl (by kernel_rfl) (fun _ _ _ h => h) (Or.inl ⟨by rfl, ?_⟩) hHeld ?_ ?_
  rotate_left
  · intro w' s0
    (try dsimp only at s0)
    obtain ⟨t0, t1, t2, t3, t4, t5, t6, t7, t8, t9, t10, t11⟩ := s0
    go_simp
    (try with_reducible rfl)
  rotate_left
  · simp only [Act.put, List.setIfInBounds_toArray, List.set_cons_zero, List.set_cons_succ]
    rfl
  refine take_ (i := 11) (N := some 14) (v := ?_) (a' := ?_) #[true, true, true, true, true, true, true, true, true, true, true, true, true, false, true, false, true, false, true, false, false, true, false, false, true, false, false, false, false] rfl rfl (by kernel_rfl) (fun _ _ _ h => h) (Or.inl ⟨by rfl, ?_⟩) hHeld ?_ ?_
  rotate_left
  · intro w' s0
    (try dsimp only at s0)
    obtain ⟨t0, t1, t2, t3, t4, t5, t6, t7, t8, t9, t10, t11⟩ := s0
    go_simp
    (try with_reducible rfl)
  rotate_left
  · simp only [Act.put, List.setIfInBounds_toArray, List.set_cons_zero, List.set_cons_succ]
    rfl
  refine take_ (i := 13) (N := some 16) (v := ?_) (a' := ?_) #[true, true, true, true, true, true, true, true, true, true, true, true, true, true, true, false, true, false, true, false, false, true, false, false, true, false, false, false, false] rfl rfl (by kernel_rfl) (fun _ _ _ h => h) (Or.inl ⟨by rfl, ?_⟩) hHeld ?_ ?_
  rotate_left
  · intro w' s0
    (try dsimp only at s0)
    obtain ⟨t0, t1, t2, t3, t4, t5, t6, t7, t8, t9, t10, t11⟩ := s0
    go_simp
    (try with_reducible rfl)
  rotate_left
  · simp only [Act.put, List.setIfInBounds_toArray, List.set_cons_zero, List.set_cons_succ]
    rfl
  refine take_ (i := 15) (N := some 18) (v := ?_) (a' := ?_) #[true, true, true, true, true, true, true, true, true, true, true, true, true, true, true, true, true, false, true, false, false, true, false, false, true, false, false, false, false] rfl rfl (by kernel_rfl) (fun _ _ _ h => h) (Or.inl ⟨by rfl, ?_⟩) hHeld ?_ ?_
  rotate_left
  · intro w' s0
    (try dsimp only at s0)
    obtain ⟨t0, t1, t2, t3, t4, t5, t6, t7, t8, t9, t10, t11⟩ := s0
    go_simp
    (try with_reducible rfl)
  rotate_left
  · simp only [Act.put, List.setIfInBounds_toArray, List.set_cons_zero, List.set_cons_succ]
    rfl
  refine take_ (i := 17) (N := some 20) (v := ?_) (a' := ?_) #[true, true, true, true, true, true, true, true, true, true, true, true, true, true, true, true, true, true, true, false, false, true, false, false, true, false, false, false, false] rfl rfl (by kernel_rfl) (fun _ _ _ h => h) (Or.inl ⟨by rfl, ?_⟩) hHeld ?_ ?_
  rotate_left
  · intro w' s0
    (try dsimp only at s0)
    obtain ⟨t0, t1, t2, t3, t4, t5, t6, t7, t8, t9, t10, t11⟩ := s0
    go_simp
    (try with_reducible rfl)
  rotate_left
  · simp only [Act.put, List.setIfInBounds_toArray, List.set_cons_zero, List.set_cons_succ]
    rfl
  refine take_ (i := 19) (N := some 22) (v := ?_) (a' := ?_) #[true, true, true, true, true, true, true, true, true, true, true, true, true, true, true, true, true, true, true, true, false, true, false, false, true, false, false, false, false] rfl rfl (by kernel_rfl) (fun _ _ _ h => h) (Or.inl ⟨by rfl, ?_⟩) hHeld ?_ ?_
  rotate_left
  · intro w' s0
    (try dsimp only at s0)
    obtain ⟨t0, t1, t2, t3, t4, t5, t6, t7, t8, t9, t10, t11⟩ := s0
    go_simp
    (try with_reducible rfl)
  rotate_left
  · simp only [Act.put, List.setIfInBounds_toArray, List.set_cons_zero, List.set_cons_succ]
    rfl
  refine pure_ (i := 20) (N := some 23) (v := ?_) (a' := ?_) #[true, true, true, true, true, true, true, true, true, true, true, true, true, true, true, true, true, true, true, true, true, true, false, false, true, false, false, false, false] rfl rfl (by kernel_rfl) (fun _ _ _ h => h) (Or.inl ⟨by rfl, ?_⟩) ?_ ?_
  rotate_left
  · intro w'
    go_simp
    (try with_reducible rfl)
  rotate_left
  · simp only [Act.put, List.setIfInBounds_toArray, List.set_cons_zero, List.set_cons_succ]
    rfl
  refine take_ (i := 22) (N := some 25) (v := ?_) (a' := ?_) #[true, true, true, true, true, true, true, true, true, true, true, true, true, true, true, true, true, true, true, true, true, true, true, false, true, false, false, false, false] rfl rfl (by kernel_rfl) (fun _ _ _ h => h) (Or.inl ⟨by rfl, ?_⟩) hHeld ?_ ?_
  rotate_left
  · intro w' s0
    (try dsimp only at s0)
    obtain ⟨t0, t1, t2, t3, t4, t5, t6, t7, t8, t9, t10, t11⟩ := s0
    go_simp
    (try with_reducible rfl)
  rotate_left
  · simp only [Act.put, List.setIfInBounds_toArray, List.set_cons_zero, List.set_cons_succ]
    rfl
  refine take_ (i := 25) (N := some 28) (v := ?_) (a' := ?_) #[true, true, true, true, true, true, true, true, true, true, true, true, true, true, true, true, true, true, true, true, true, true, true, false, true, true, false, false, false] rfl rfl (by kernel_rfl) (fun _ _ _ h => h) (Or.inl ⟨by rfl, ?_⟩) hHeld ?_ ?_
  rotate_left
  · intro w' s0
    (try dsimp only at s0)
    obtain ⟨t0, t1, t2, t3, t4, t5, t6, t7, t8, t9, t10, t11⟩ := s0
    go_simp
    (try with_reducible rfl)
  rotate_left
  · simp only [Act.put, List.setIfInBounds_toArray, List.set_cons_zero, List.set_cons_succ]
    rfl
  refine one_ (i := 23) (N := some 26) (oi := ⟨some 26, Go.Op.call ⟨Go.Callee.value (Go.Operand.func 9), #[Go.Operand.tmp 25, Go.Operand.const (Go.Value.int Go.IntKind.i64 140)], #[24, 3]⟩, 24, "law.go:16", #[⟨22, Go.Ground.data⟩], none⟩) #[true, true, true, true, true, true, true, true, true, true, true, true, true, true, true, true, true, true, true, true, true, true, true, true, true, true, false, false, false] rfl rfl (by kernel_rfl) (by decide) (fun K hK => ?_)
  rw [if_pos (by rfl)]
  go_simp
  (go_at_call 9; (with_reducible refine (HF.out _ HB0.out).mono ?_); rintro e w1 ⟨v1, rfl, ho, hb⟩; obtain ⟨A1, c1, rfl⟩ := Kd.R_slice ho; have HO1 := Lib.hid ho; have HX1 := Lib.hid (HX0.out.out hb); have HY1 := Lib.hid (HY0.out.out hb); have HB1 := Lib.hid (HB0.out.trans (hb.mono HB0.out.size)); clear ho hb)
  refine hK.out _ _ (HX1.out.msgS) (fun hHeld => ?_)
  clear hK K
  try simp only [Act.put, List.setIfInBounds_toArray, List.set_cons_zero, List.set_cons_succ]
  refine one_ (i := 26) (N := some 29) (oi := ⟨some 29, Go.Op.call ⟨Go.Callee.value (Go.Operand.func 7), #[Go.Operand.tmp 28, Go.Operand.const (Go.Value.int Go.IntKind.i64 1000)], #[9, 3]⟩, 9, "law.go:16", #[⟨25, Go.Ground.data⟩, ⟨23, Go.Ground.chain⟩], none⟩) #[true, true, true, true, true, true, true, true, true, true, true, true, true, true, true, true, true, true, true, true, true, true, true, true, true, true, true, false, false] rfl rfl (by kernel_rfl) (by decide) (fun K hK => ?_)
  rw [if_pos (by rfl)]
  go_simp
  (go_at_call 7; (with_reducible refine (HC.out _).mono ?_); rintro e w2 ⟨rfl, hb⟩; have HO2 := Lib.hid (KI_out HO1.out hb); have HX2 := Lib.hid (HX1.out.out hb); have HY2 := Lib.hid (HY1.out.out hb); have HB2 := Lib.hid (HB1.out.trans (hb.mono HB1.out.size)); clear hb)
  refine hK.out _ _ (HX2.out.msgS) (fun hHeld => ?_)
  clear hK K
  try simp only [Act.put, List.setIfInBounds_toArray, List.set_cons_zero, List.set_cons_succ]
  refine pure_ (i := 27) (N := some 30) (v := ?_) (a' := ?_) #[true, true, true, true, true, true, true, true, true, true, true, true, true, true, true, true, true, true, true, true, true, true, true, true, true, true, true, true, false] rfl rfl (by kernel_rfl) (fun _ _ _ h => h) (Or.inl ⟨by rfl, ?_⟩) ?_ ?_
  rotate_left
  · intro w'
    go_simp
    (try with_reducible rfl)
  rotate_left
  · simp only [Act.put, List.setIfInBounds_toArray, List.set_cons_zero, List.set_cons_succ]
    rfl
  refine last_ (i := 28) (N := none) (oi := ⟨none, Go.Op.store 60 (Go.Operand.tmp 2) (Go.Operand.tmp 30), 0, "law.go:16", #[⟨27, Go.Ground.data⟩, ⟨26, Go.Ground.chain⟩, ⟨0, Go.Ground.phase⟩, ⟨1, Go.Ground.phase⟩, ⟨2, Go.Ground.phase⟩, ⟨3, Go.Ground.phase⟩, ⟨4, Go.Ground.phase⟩, ⟨5, Go.Ground.phase⟩, ⟨6, Go.Ground.phase⟩, ⟨7, Go.Ground.phase⟩, ⟨8, Go.Ground.phase⟩, ⟨9, Go.Ground.phase⟩, ⟨10, Go.Ground.phase⟩, ⟨11, Go.Ground.phase⟩, ⟨12, Go.Ground.phase⟩, ⟨13, Go.Ground.phase⟩, ⟨14, Go.Ground.phase⟩, ⟨15, Go.Ground.phase⟩, ⟨16, Go.Ground.phase⟩, ⟨17, Go.Ground.phase⟩, ⟨18, Go.Ground.phase⟩, ⟨19, Go.Ground.phase⟩, ⟨20, Go.Ground.phase⟩, ⟨21, Go.Ground.phase⟩, ⟨22, Go.Ground.phase⟩, ⟨23, Go.Ground.phase⟩, ⟨24, Go.Ground.phase⟩, ⟨25, Go.Ground.phase⟩, ⟨26, Go.Ground.phase⟩, ⟨27, Go.Ground.phase⟩], none⟩) #[true, true, true, true, true, true, true, true, true, true, true, true, true, true, true, true, true, true, true, true, true, true, true, true, true, true, true, true, true] rfl rfl (by kernel_rfl) (by decide) (fun K hK => ?_)
  refine step_store_part _ (by rfl) rfl (.tmp 2) (.tmp 30) 60 rfl h 0 (msgC n (.slice A1 ts2.length c1) s2) rfl rfl sizeRef rfl 60 _ HY2.out (Nat.le_refl _) (msgC n (.slice A1 ts2.length c1) s2) rfl ?_
  intro w3 hb3 hfr
  have HY3 := Lib.hid hb3
  have HO3 := Lib.hid (KI_out_far HO2.out hfr HL2.out)
  have HB3 := Lib.hid (HB2.out.trans (hfr.below HLo.out))
  clear hb3 hfr
  refine hK.out _ _ ?_
  clear hK K
  try simp only [Act.put, List.setIfInBounds_toArray, List.set_cons_zero, List.set_cons_succ]
  refine done_ (by kernel_rfl) ?_
  go_wp2_with fail
  exact bodyPost_ret (results_blk1 Try.results16 _ _ h (msgC n (.slice A1 ts2.length c1) s2) rfl aggRef sizeRef HY3.out) rfl ⟨A1, c1, rfl, Kd.R_lower HO3.out HB0.out.size, HB3.out⟩
set_option maxRecDepth 100000 in
set_option maxHeartbeats 8000000 in
theorem few15_any (n : Nat → Int) (A : Option Addr) (c : Nat) (ts : List Int) (s : ByteArray) (w : World) (hr : KI.C w A ts.length ts) (hc : ts.length ≤ c) (hcm : c ≤ 9223372036854775807) :
    Calls Try.prog 14 #[.agg (msgC n (.slice A ts.length c) s)] w fun e w' => ∃ (A' : Option Addr) (c' : Nat), e = .returned (.agg (msgC n (.slice A' (ts.take 140).length c') (str (s.data.toList.take 1000)))) ∧ KI.R 3 w' w.heap.size All (.slice A' (ts.take 140).length c') (ts.take 140) ∧ Below w.heap.size w w' := by
  obtain ⟨ts2, hts2⟩ : ∃ ts2, ts2 = ts.take 140 := ⟨_, rfl⟩
  obtain ⟨s2, hs2⟩ : ∃ s2, s2 = str (s.data.toList.take 1000) := ⟨_, rfl⟩
  have HF : Hid (∀ V, Below w.heap.size w V → Calls Try.prog 9 #[.slice A ts.length c, .int .i64 140] V fun e w' => ∃ v : Value, e = .returned v ∧ KI.R 3 w' V.heap.size All v ts2 ∧ Below V.heap.size V w') := Lib.hid (fun V hV => by rw [hts2]; exact few_any A c ts 140 (by omega) V (Kd.C_below hr hV) hc hcm)
  have HC : Hid (∀ V, Calls Try.prog 7 #[.string s, .int .i64 1000] V fun e w' => e = .returned (.string s2) ∧ Below V.heap.size V w') := Lib.hid (fun V => by rw [hs2]; exact cut_any s 1000 (by omega) V)
  rw [← hts2, ← hs2]
  clear hts2 hs2 hr
  have HBe := Lib.hid (Below.refl w.heap.size w)
  have hu48 := Try.underlying51
  unfold msgC
  go_enter Try.func14, Try.ntmps14
  go_wp2_with (first
    | ((with_reducible refine gate_dst (N := 1) rfl ?_); refine box_event rfl (N := 1) rfl (cs := msgC n (.slice A ts.length c) s) (t := 51) ?hr ?_; (case hr => first | (go_simp; done) | (go_simp; rfl)); intro g hg W1 hbox hb; have HGe := Lib.hid (Nat.le_of_eq hg.symm); clear hg; have HX := Lib.hid (show Blk W1 g 51 (msgC n (.slice A ts.length c) s) from hbox); have HB := Lib.hid (HBe.out.trans (hb.mono HBe.out.size)); clear hb hbox)
    | ((with_reducible refine gate_dst (N := 2) rfl ?_); refine box_event rfl (N := 2) rfl (cs := zeroR) (t := 51) ?hr ?_; (case hr => first | (go_simp; done) | (go_simp; rfl)); intro h hh W2 hbox hb; have HLo := Lib.hid (show w.heap.size ≤ h by rw [hh]; exact HB.out.size); have HL1 := Lib.hid (show g < h by rw [hh]; exact HX.out.lt); have HL2 := Lib.hid (show h < W2.heap.size from Blk.lt hbox); clear hh; have HX0 := Lib.hid (HX.out.out hb); have HY0 := Lib.hid (show Blk W2 h 51 zeroR from hbox); have HB0 := Lib.hid (HB.out.trans (hb.mono HB.out.size)); have c10 : W2.cell? ⟨g, 10, none⟩ = some (.slice A ts.length c) := HX0.out.cell 10; clear hb hbox HX HB)
    | (go_at_call 9; (with_reducible refine (HF.out _ HB0.out).mono ?_); rintro e w1 ⟨v1, rfl, ho, hb⟩; obtain ⟨A1, c1, rfl⟩ := Kd.R_slice ho; clear c10; have hX1 := HX0.out.out hb; have c10 : w1.cell? ⟨g, 10, none⟩ = some (.slice A ts.length c) := hX1.cell 10; have f10 := hX1.frozen 10; have HO1 := Lib.hid (KI_set_old ho (p := ⟨g, 10, none⟩) (Nat.lt_trans HL1.out HL2.out) (.slice A1 ts2.length c1)); have HX1 := Lib.hid (show Blk (w1.setCell ⟨g, 10, none⟩ (.slice A1 ts2.length c1)) g 51 (msgC n (.slice A1 ts2.length c1) s) from hX1.set 10 _); have HY1 := Lib.hid ((HY0.out.out hb).far (p := ⟨g, 10, none⟩) (Nat.ne_of_gt HL1.out) (.slice A1 ts2.length c1)); have HB1 := Lib.hid ((HB0.out.trans (hb.mono HB0.out.size)).setCell (p := ⟨g, 10, none⟩) HGe.out (.slice A1 ts2.length c1)); have c11 : (w1.setCell ⟨g, 10, none⟩ (.slice A1 ts2.length c1)).cell? ⟨g, 11, none⟩ = some (.string s) := HX1.out.cell 11; clear ho hb hX1)
    | (go_at_call 7; (with_reducible refine (HC.out _).mono ?_); rintro e w2 ⟨rfl, hb⟩; clear c10 f10 c11; have hX2 := HX1.out.out hb; have c11 : w2.cell? ⟨g, 11, none⟩ = some (.string s) := hX2.cell 11; have f11 := hX2.frozen 11; have HO2 := Lib.hid (KI_set_old (KI_out HO1.out hb) (p := ⟨g, 11, none⟩) (Nat.lt_trans HL1.out HL2.out) (.string s2)); have HX2 := Lib.hid (show Blk (w2.setCell ⟨g, 11, none⟩ (.string s2)) g 51 (msgC n (.slice A1 ts2.length c1) s2) from hX2.set 11 _); have HY2 := Lib.hid ((HY1.out.out hb).far (p := ⟨g, 11, none⟩) (Nat.ne_of_gt HL1.out) (.string s2)); have HB2 := Lib.hid ((HB1.out.trans (hb.mono HB1.out.size)).setCell (p := ⟨g, 11, none⟩) HGe.out (.string s2)); clear hb hX2)
    | (refine wpList_load_part _ rfl (.tmp 1) 51 rfl g 0 (msgC n (.slice A1 ts2.length c1) s2) rfl aggMsg sizeMsg 51 _ HX2.out ?_ ?_; (intro j v hv; rw [Nat.zero_add]; simpa using hv))
    | (refine wpList_store_part _ rfl (.tmp 2) (.tmp 11) 51 rfl h 0 (msgC n (.slice A1 ts2.length c1) s2) rfl rfl sizeMsg rfl 51 _ HY2.out (Nat.le_refl _) (msgC n (.slice A1 ts2.length c1) s2) rfl ?_; intro w3 hb3 hfr; have HY3 := Lib.hid hb3; have HO3 := Lib.hid (KI_far_all HO2.out hfr HL2.out); have HB3 := Lib.hid (HB2.out.trans (hfr.below HLo.out)); clear hb3 hfr)
    | fail)
  exact bodyPost_ret (results_blk1 Try.results14 _ _ h (msgC n (.slice A1 ts2.length c1) s2) rfl aggMsg sizeMsg HY3.out) rfl ⟨A1, c1, rfl, Kd.R_lower HO3.out HB0.out.size, HB3.out⟩
end Go.Proofs.Ytjlfoiocceepjaa
