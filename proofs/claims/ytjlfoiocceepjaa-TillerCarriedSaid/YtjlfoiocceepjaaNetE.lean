/-
  Lose and Move, walked.
-/
import Derived.Test.YtjlfoiocceepjaaNetD
namespace Go.Proofs.Ytjlfoiocceepjaa
open Go.RowKit Go.Proofs.YtjlfoiocceepjaaW.PrintWords Go.Proofs.YtjlfoiocceepjaaW.PrintLast Go.Proofs.YtjlfoiocceepjaaW.PrintMore
set_option linter.unusedVariables false
set_option linter.unusedSimpArgs false

theorem below_out {W W1 W2 : World} (h : Below W.heap.size W W1) (k : Below W1.heap.size W1 W2) : Below W.heap.size W W2 := h.trans (k.mono h.size)
set_option maxRecDepth 100000 in
set_option maxHeartbeats 4000000 in
theorem lose_bad (B : Nat) (W : World) (g : Nat) (l : List Pc) (i : Int) (h : NetI B W g l) (hi : i < 0 ∨ (l.length : Int) ≤ i) :
    Calls Try.prog 17 #[.pointer (some ⟨g, 0, none⟩), .int .i64 i] W fun e w' => e = .returned (.int .i64 8) ∧ Below W.heap.size W w' := by
  have HT := Lib.hid (take_bad B W g l i h hi)
  have hu67 := Try.underlying67
  clear hi h
  go_enter Try.func17, Try.ntmps17
  go_wp2_with (first
    | (go_at_call 20; (with_reducible refine (HT.out).mono ?_); rintro e W1 ⟨rfl, hb⟩; have HE1 := Lib.hid hb; clear hb)
    | ((with_reducible refine gate_dst (N := 5) rfl ?_); refine box_event rfl (N := 5) rfl (cs := zeroP) (t := 67) ?hr ?_; (case hr => first | (go_simp; done) | (go_simp; rfl)); intro q hq W2 hbox hb; have HLq := Lib.hid (show W.heap.size ≤ q by rw [hq]; exact HE1.out.size); have HQ := Lib.hid (show W1.heap.size ≤ q by rw [hq]; exact Nat.le_refl _); clear hq; have HY2 := Lib.hid (show Blk W2 q 67 zeroP from hbox); have HB2 := Lib.hid hb; clear hb hbox)
    | (refine wpList_store_part _ rfl (.tmp 5) (.tmp 11) 67 rfl q 0 (zeroP) rfl rfl sizePc rfl 67 _ HY2.out (Nat.le_refl _) (zeroP) rfl ?_; intro W3 hb4 hfr; have HY3 := Lib.hid hb4; have HB3 := Lib.hid (HB2.out.trans (hfr.below HQ.out)); clear hb4 hfr)
    | fail)
  go_ret
  exact ⟨rfl, below_out HE1.out HB3.out⟩
set_option maxRecDepth 100000 in
set_option maxHeartbeats 4000000 in
theorem lose_ok (B : Nat) (W : World) (g : Nat) (l : List Pc) (i : Nat) (h : NetI B W g l) (hi : i < l.length) (hl : l.length ≤ 300) :
    Calls Try.prog 17 #[.pointer (some ⟨g, 0, none⟩), .int .i64 (i : Int)] W fun e w' => e = .returned (.int .i64 0) ∧ NetI B w' g (l.eraseIdx i) ∧ Ef B [54, 67] W w' := by
  have HT := Lib.hid (take_ok B W g l i h hi hl)
  have HBg := Lib.hid (show B ≤ g ∧ g < W.heap.size by obtain ⟨⟨A, c, lost, h1, h2⟩, h3⟩ := h; exact ⟨h3, h1.lt⟩)
  have hu67 := Try.underlying67
  obtain ⟨p, hp⟩ : ∃ p, p = l[i] := ⟨_, rfl⟩
  have hle : (l.eraseIdx i).length ≤ 300 := by rw [List.length_eraseIdx, if_pos hi]; omega
  obtain ⟨l', hl'⟩ : ∃ l', l' = l.eraseIdx i := ⟨_, rfl⟩
  rw [← hp] at HT
  rw [← hl'] at HT hle ⊢
  obtain ⟨L', hL'⟩ : ∃ L', l'.length = L' := ⟨_, rfl⟩
  rw [hL'] at hle
  have HLn := Lib.hid hL'
  clear h hi hl hp hl' hL'
  go_enter Try.func17, Try.ntmps17
  go_wp2_with (first
    | (go_at_call 20; (with_reducible refine (HT.out).mono ?_); rintro e W1 ⟨rfl, hn, hE⟩; have HE1 := Lib.hid hE; obtain ⟨⟨A1, c1, lost1, k1, k2⟩, k3⟩ := hn; rw [HLn.out] at k1; have HN1 := Lib.hid k1; have HR1 := Lib.hid k2; clear k1 k2 k3 hE)
    | ((with_reducible refine gate_dst (N := 5) rfl ?_); refine box_event rfl (N := 5) rfl (cs := zeroP) (t := 67) ?hr ?_; (case hr => first | (go_simp; done) | (go_simp; rfl)); intro q hq W2 hbox hb; have HLq := Lib.hid (show W.heap.size ≤ q by rw [hq]; exact HE1.out.size); have HQ := Lib.hid (show W1.heap.size ≤ q by rw [hq]; exact Nat.le_refl _); clear hq; have HY2 := Lib.hid (show Blk W2 q 67 zeroP from hbox); have HB2 := Lib.hid hb; clear hb hbox)
    | (refine wpList_store_part _ rfl (.tmp 5) (.tmp 11) 67 rfl q 0 (pcA p) rfl rfl sizePc rfl 67 _ HY2.out (Nat.le_refl _) (pcA p) rfl ?_; intro W3 hb4 hfr; have HY3 := Lib.hid hb4; have HB3 := Lib.hid (HB2.out.trans (hfr.below HQ.out)); have hN3 := HN1.out.out HB3.out; have c3 : W3.cell? ⟨g, 1, none⟩ = some (.int .i64 lost1) := hN3.cell 1; have f3 := hN3.frozen 1; clear hN3; clear hb4 hfr)
    | fail)
  go_ret
  have hN3 := HN1.out.out HB3.out
  refine ⟨rfl, ⟨⟨A1, c1, _, HLn.out ▸ hN3.set 1 _, ?_⟩, HBg.out.1⟩, (HE1.out.out HB3.out).trans (Ef.far hN3 (by simp) HBg.out.1 (Far.setCell _ ⟨g, 1, none⟩ _))⟩
  exact (HR1.out.out HB3.out).ef (Ef.far (T := [54]) hN3 (by simp) HBg.out.1 (Far.setCell _ ⟨g, 1, none⟩ _)) (by simp)
set_option maxRecDepth 100000 in
set_option maxHeartbeats 4000000 in
theorem move_bad (B : Nat) (W : World) (g : Nat) (l : List Pc) (i : Int) (h : NetI B W g l) (hi : i < 0 ∨ (l.length : Int) ≤ i) :
    Calls Try.prog 18 #[.pointer (some ⟨g, 0, none⟩), .int .i64 i] W fun e w' => e = .returned (.int .i64 8) ∧ Below W.heap.size W w' := by
  have HT := Lib.hid (take_bad B W g l i h hi)
  have hu67 := Try.underlying67
  clear hi h
  go_enter Try.func18, Try.ntmps18
  go_wp2_with (first
    | (go_at_call 20; (with_reducible refine (HT.out).mono ?_); rintro e W1 ⟨rfl, hb⟩; have HE1 := Lib.hid hb; clear hb)
    | ((with_reducible refine gate_dst (N := 5) rfl ?_); refine box_event rfl (N := 5) rfl (cs := zeroP) (t := 67) ?hr ?_; (case hr => first | (go_simp; done) | (go_simp; rfl)); intro q hq W2 hbox hb; have HLq := Lib.hid (show W.heap.size ≤ q by rw [hq]; exact HE1.out.size); have HQ := Lib.hid (show W1.heap.size ≤ q by rw [hq]; exact Nat.le_refl _); clear hq; have HY2 := Lib.hid (show Blk W2 q 67 zeroP from hbox); have HB2 := Lib.hid hb; clear hb hbox)
    | (refine wpList_store_part _ rfl (.tmp 5) (.tmp 11) 67 rfl q 0 (zeroP) rfl rfl sizePc rfl 67 _ HY2.out (Nat.le_refl _) (zeroP) rfl ?_; intro W3 hb4 hfr; have HY3 := Lib.hid hb4; have HB3 := Lib.hid (HB2.out.trans (hfr.below HQ.out)); clear hb4 hfr)
    | fail)
  go_ret
  exact ⟨rfl, below_out HE1.out HB3.out⟩
set_option maxRecDepth 100000 in
set_option maxHeartbeats 4000000 in
theorem move_ok (B : Nat) (W : World) (g : Nat) (l : List Pc) (i : Nat) (h : NetI B W g l) (hi : i < l.length) (hl : l.length ≤ 300) :
    Calls Try.prog 18 #[.pointer (some ⟨g, 0, none⟩), .int .i64 (i : Int)] W fun e w' => e = .returned (.int .i64 0) ∧ NetI B w' g (l.eraseIdx i ++ [l[i]]) ∧ Ef B [54, 67] W w' := by
  have HT := Lib.hid (take_ok B W g l i h hi hl)
  have HBg := Lib.hid (show B ≤ g ∧ g < W.heap.size by obtain ⟨⟨A, c, lost, h1, h2⟩, h3⟩ := h; exact ⟨h3, h1.lt⟩)
  have hu67 := Try.underlying67
  obtain ⟨p, hp⟩ : ∃ p, p = l[i] := ⟨_, rfl⟩
  have hle : (l.eraseIdx i).length ≤ 300 := by rw [List.length_eraseIdx, if_pos hi]; omega
  obtain ⟨l', hl'⟩ : ∃ l', l' = l.eraseIdx i := ⟨_, rfl⟩
  rw [← hp] at HT ⊢
  rw [← hl'] at HT hle ⊢
  obtain ⟨L', hL'⟩ : ∃ L', l'.length = L' := ⟨_, rfl⟩
  rw [hL'] at hle
  have HLn := Lib.hid hL'
  clear h hi hl hp hl' hL'
  go_enter Try.func18, Try.ntmps18
  have HLL := Lib.hid (show (l' ++ [p]).length = L' + 1 by rw [List.length_append, HLn.out]; rfl)
  go_wp2_with (first
    | (go_at_call 20; (with_reducible refine (HT.out).mono ?_); rintro e W1 ⟨rfl, hn, hE⟩; have HE1 := Lib.hid hE; obtain ⟨⟨A1, c1, lost1, k1, k2⟩, k3⟩ := hn; rw [HLn.out] at k1; have HN1 := Lib.hid k1; have HR1 := Lib.hid k2; clear k1 k2 k3 hE)
    | ((with_reducible refine gate_dst (N := 5) rfl ?_); refine box_event rfl (N := 5) rfl (cs := zeroP) (t := 67) ?hr ?_; (case hr => first | (go_simp; done) | (go_simp; rfl)); intro q hq W2 hbox hb; have HLq := Lib.hid (show W.heap.size ≤ q by rw [hq]; exact HE1.out.size); have HQ := Lib.hid (show W1.heap.size ≤ q by rw [hq]; exact Nat.le_refl _); clear hq; have HY2 := Lib.hid (show Blk W2 q 67 zeroP from hbox); have HB2 := Lib.hid hb; clear hb hbox)
    | (refine wpList_store_part _ rfl (.tmp 5) (.tmp 11) 67 rfl q 0 (pcA p) rfl rfl sizePc rfl 67 _ HY2.out (Nat.le_refl _) (pcA p) rfl ?_; intro W3 hb4 hfr; have HY3 := Lib.hid hb4; have HB3 := Lib.hid (HB2.out.trans (hfr.below HQ.out)); clear hb4 hfr)
    | fail)
  have HN3 := Lib.hid (show Blk W3.drew g 54 #[.slice A1 L' c1, .int .i64 lost1] from (HN1.out.out HB3.out).drew)
  have HR3 : Hid (World.ownsRow W3.drew B 67 3 (.slice A1 L' c1) L' (pcs l')) := Lib.hid (by have := HR1.out.out HB3.out; rw [HLn.out] at this; unfold PR at this; rw [HLn.out] at this; exact this)
  have HBs := Lib.hid (show B ≤ W3.drew.heap.size from Nat.le_trans HBg.out.1 (Nat.le_of_lt (HN1.out.out HB3.out).lt))
  replace HY3 : Hid (Blk W3.drew q 67 (pcA p)) := Lib.hid HY3.out.drew
  refine start_ (n := 11) (S := fun W' => W'.cell? ⟨g, 0, none⟩ = some (.slice A1 L' c1) ∧ Blk W' q 67 (pcA p)) (ds := [7, 10]) #[false, false, false, false, false, false, false, false, false, false, false] (by kernel_rfl) rfl rfl (⟨HN3.out.cell 0, HY3.out⟩) (fun hHeld => ?_)
  refine pure_ (i := 0) (N := some 15) (v := ?_) (a' := ?_) #[true, false, false, false, false, false, false, false, false, false, false] rfl rfl (by kernel_rfl) (fun _ _ _ h => h) (Or.inl ⟨by rfl, ?_⟩) ?_ ?_
  rotate_left
  · intro w'
    go_simp
    (try with_reducible rfl)
  rotate_left
  · simp only [Act.put, List.setIfInBounds_toArray, List.set_cons_zero, List.set_cons_succ]
    rfl
  refine pure_ (i := 1) (N := some 16) (v := ?_) (a' := ?_) #[true, true, false, false, false, false, false, false, false, false, false] rfl rfl (by kernel_rfl) (fun _ _ _ h => h) (Or.inl ⟨by rfl, ?_⟩) ?_ ?_
  rotate_left
  · intro w'
    go_simp
    (try with_reducible rfl)
  rotate_left
  · simp only [Act.put, List.setIfInBounds_toArray, List.set_cons_zero, List.set_cons_succ]
    rfl
  refine pure_ (i := 2) (N := some 17) (v := ?_) (a' := ?_) #[true, true, true, false, false, false, false, false, false, false, false] rfl rfl (by kernel_rfl) (fun _ _ _ h => h) (Or.inl ⟨by rfl, ?_⟩) ?_ ?_
  rotate_left
  · intro w'
    go_simp
    (try with_reducible rfl)
  rotate_left
  · simp only [Act.put, List.setIfInBounds_toArray, List.set_cons_zero, List.set_cons_succ]
    rfl
  refine pure_ (i := 3) (N := some 18) (v := ?_) (a' := ?_) #[true, true, true, true, false, false, false, false, false, false, false] rfl rfl (by kernel_rfl) (fun _ _ _ h => h) (Or.inl ⟨by rfl, ?_⟩) ?_ ?_
  rotate_left
  · intro w'
    go_simp
    (try with_reducible rfl)
  rotate_left
  · simp only [Act.put, List.setIfInBounds_toArray, List.set_cons_zero, List.set_cons_succ]
    rfl
  refine take_ (i := 4) (N := some 19) (v := ?_) (a' := ?_) #[true, true, true, true, true, false, false, false, false, false, false] rfl rfl (by kernel_rfl) (fun _ _ _ h => h) (Or.inl ⟨by rfl, ?_⟩) hHeld ?_ ?_
  rotate_left
  · intro w' s0
    (try dsimp only at s0)
    obtain ⟨t1, t2⟩ := s0
    go_simp
    (try with_reducible rfl)
  rotate_left
  · simp only [Act.put, List.setIfInBounds_toArray, List.set_cons_zero, List.set_cons_succ]
    rfl
  refine take_ (i := 5) (N := some 20) (v := ?_) (a' := ?_) #[true, true, true, true, true, true, false, false, false, false, false] rfl rfl (by kernel_rfl) (fun _ _ _ h => h) (Or.inl ⟨by rfl, ?_⟩) hHeld ?_ ?_
  rotate_left
  · intro w' s0
    obtain ⟨t1, t2⟩ := s0
    refine exec_load_part _ (.tmp 5) 67 ?_ q 0 (pcA p) ?_ aggPc sizePc 67 _ t2 ?_
    · rfl
    · rfl
    · intro j v hv
      rw [Nat.zero_add]
      simpa using hv
  rotate_left
  · simp only [Act.put, List.setIfInBounds_toArray, List.set_cons_zero, List.set_cons_succ]
    rfl
  refine one_ (i := 6) (N := some 21) (oi := ⟨some 21, Go.Op.buildSlice 52 1 #[(0, Go.Operand.tmp 20)], 52, "net.go:74", #[⟨5, Go.Ground.data⟩], none⟩) #[true, true, true, true, true, true, true, false, false, false, false] rfl rfl (by kernel_rfl) (by decide) (fun K hK => ?_)
  rw [if_pos (by rfl)]
  go_simp
  unfold pcA
  go_simp
  refine hK.out _ _ (⟨(HN3.out.alloc _).cell 0, HY3.out.alloc _⟩) (fun hHeld => ?_)
  clear hK K
  try simp only [Act.put, List.setIfInBounds_toArray, List.set_cons_zero, List.set_cons_succ]
  refine last_ (i := 7) (N := some 22) (oi := ⟨some 22, Go.Op.call ⟨Go.Callee.builtin Go.Builtin.append, #[Go.Operand.tmp 19, Go.Operand.tmp 21], #[52, 52]⟩, 52, "net.go:74", #[⟨4, Go.Ground.data⟩, ⟨6, Go.Ground.data⟩], none⟩) #[true, true, true, true, true, true, true, true, false, false, false] rfl rfl (by kernel_rfl) (by decide) (fun K hK => ?_)
  refine step_append_cells (w0 := W3.drew) B (by rfl) (.tmp 19) (.tmp 21) 52 67 _ 3 32 rfl Try.underlying52 infoPc rfl (by omega) (by omega) _ L' (pcs l') (pcC p) rfl rfl rfl (by intro u hu; simp [pcC] at hu; rcases hu with rfl | rfl | rfl <;> rfl) HR3.out (Below.refl _ _) HBs.out (by omega) ?_
  intro v1 w1 hown _ hgrow _
  have hE4 : Ef B [67] W3.drew w1 := Ef.grown HR3.out (by simp) hgrow
  have HE4 := Lib.hid hE4
  have HP4 : Hid (PR w1 B v1 (l' ++ [p])) := Lib.hid (by unfold PR; rw [HLL.out, pcs_append]; exact hown)
  obtain ⟨A4, cc4, hv1, _⟩ := HP4.out.form
  subst hv1
  rw [HLL.out] at HP4 ⊢
  have hN4 := HN3.out.ef hE4 (by simp)
  have HN4 := Lib.hid hN4
  have c4 : w1.cell? ⟨g, 0, none⟩ = some (.slice A1 L' c1) := hN4.cell 0
  have f4 := hN4.frozen 0
  clear hown hgrow hE4 hN4
  refine hK.out _ _ ?_
  clear hK K
  try simp only [Act.put, List.setIfInBounds_toArray, List.set_cons_zero, List.set_cons_succ]
  refine pure_ (i := 8) (N := some 23) (v := ?_) (a' := ?_) #[true, true, true, true, true, true, true, true, true, false, false] rfl rfl (by kernel_rfl) (fun _ _ _ h => h) (Or.inl ⟨by rfl, ?_⟩) ?_ ?_
  rotate_left
  · intro w'
    go_simp
    (try with_reducible rfl)
  rotate_left
  · simp only [Act.put, List.setIfInBounds_toArray, List.set_cons_zero, List.set_cons_succ]
    rfl
  refine pure_ (i := 9) (N := some 24) (v := ?_) (a' := ?_) #[true, true, true, true, true, true, true, true, true, true, false] rfl rfl (by kernel_rfl) (fun _ _ _ h => h) (Or.inl ⟨by rfl, ?_⟩) ?_ ?_
  rotate_left
  · intro w'
    go_simp
    (try with_reducible rfl)
  rotate_left
  · simp only [Act.put, List.setIfInBounds_toArray, List.set_cons_zero, List.set_cons_succ]
    rfl
  refine last_ (i := 10) (N := none) (oi := ⟨none, Go.Op.store 52 (Go.Operand.tmp 24) (Go.Operand.tmp 22), 0, "net.go:74", #[⟨9, Go.Ground.data⟩, ⟨7, Go.Ground.data⟩, ⟨7, Go.Ground.chain⟩, ⟨0, Go.Ground.phase⟩, ⟨1, Go.Ground.phase⟩, ⟨2, Go.Ground.phase⟩, ⟨3, Go.Ground.phase⟩, ⟨4, Go.Ground.phase⟩, ⟨5, Go.Ground.phase⟩, ⟨6, Go.Ground.phase⟩, ⟨7, Go.Ground.phase⟩], none⟩) #[true, true, true, true, true, true, true, true, true, true, true] rfl rfl (by kernel_rfl) (by decide) (fun K hK => ?_)
  rw [if_pos (by rfl)]
  go_simp
  refine hK.out _ _ ?_
  clear hK K
  try simp only [Act.put, List.setIfInBounds_toArray, List.set_cons_zero, List.set_cons_succ]
  refine done_ (by kernel_rfl) ?_
  go_wp2_with fail
  go_ret
  have hf := Far.setCell w1 ⟨g, 0, none⟩ (.slice A4 (L' + 1) cc4)
  refine ⟨rfl, ⟨⟨A4, cc4, lost1, ?_, ?_⟩, HBg.out.1⟩, ?_⟩
  · rw [HLL.out]
    exact HN4.out.set 0 _
  · rw [HLL.out]
    exact HP4.out.ef (Ef.far (B := B) (T := [54]) HN4.out (by simp) HBg.out.1 hf) (by simp)
  · exact (((HE1.out.out HB3.out).out (Below.refl _ _).drew).trans (HE4.out.mono (by simp))).trans (Ef.far HN4.out (by simp) HBg.out.1 hf)
end Go.Proofs.Ytjlfoiocceepjaa
