/-
  One tick of a clock: the walk through Tick.
-/
import Derived.Test.YtefllgpehhlkoaaClk
namespace Go.Proofs.Ytefllgpehhlkoaa
open Go.RowKit

/-- what a round of Tick's loop has done -/
def half (L L' : Nat → Int) (k : Nat) : Nat → Int := fun j => if j < k then L' j else L j
theorem half_zero (L L' : Nat → Int) : half L L' 0 = L := by funext j; simp [half]
theorem half_succ (L L' : Nat → Int) (k : Nat) : half L L' (k + 1) = fun j => if j = k then L' k else half L L' k j := by
  funext j
  unfold half
  by_cases h1 : j = k
  · subst h1; simp
  · by_cases h2 : j < k
    · rw [if_pos (by omega), if_neg h1, if_pos h2]
    · rw [if_neg (by omega), if_neg h1, if_neg h2]
theorem half_at (L L' : Nat → Int) (k : Nat) : half L L' k k = L k := by simp [half]

def Rel (w : World) (lo hi p a b c n i : Nat) (s : St) (kv : Value) (wr : World) : Prop :=
  ∃ k : Nat, k ≤ n ∧ kv = .int .i64 k ∧ ClkAt wr lo hi p a b c n ⟨bump s.N i, half s.L (lesser s.L (bump s.N i)) k, half s.H (greater s.H (bump s.N i)) k⟩ ∧ Only lo hi w wr

theorem wrap_in (x : Int) (h : -9223372036854775808 ≤ x ∧ x ≤ 9223372036854775807) : wrap64 x = x := IntWalk.wrap64_in _ h

set_option maxRecDepth 100000 in
set_option maxHeartbeats 4000000 in
theorem tick_some (w : World) (lo hi p n K : Nat) (s : St) (h : Clk w lo hi p n s) (hb : s.Bd K) (hK : K ≤ 1000000000) (i : Nat) (hn : n ≤ 8) (hi' : i < n) :
    Calls Try.prog 19 #[.pointer (some ⟨p, 0, none⟩), .int .i64 i] w fun e w' => e = .returned (.int .i64 0) ∧ Clk w' lo hi p n (s.tickAt i) ∧ Only lo hi w w' := by
  obtain ⟨a, b, c, hc⟩ := h
  have hi0 : ¬ ((i : Int) < 0) := by omega
  have hN := hb.1 i
  obtain ⟨b01, b02⟩ := hN
  have b03 : s.N i ≤ 1000000000 := by omega
  obtain ⟨k0, -, c0⟩ := hc.c0
  have f0 := hc.f0 i
  have x0 := hc.x0 i hi'
  have hpa := hc.pa
  have hap := Ne.symm hc.pa
  have sa := hc.sa
  have HS : Hid (ClkAt (w.setCell ⟨a, i, none⟩ (.int .i64 (s.N i + 1))) lo hi p a b c n ⟨bump s.N i, half s.L (lesser s.L (bump s.N i)) 0, half s.H (greater s.H (bump s.N i)) 0⟩) := by
    rw [half_zero, half_zero]
    refine (hc.setN i (s.N i + 1) hi').congr (fun j _ => ?_) (fun _ _ => rfl) (fun _ _ => rfl)
    unfold bump
    by_cases e : j = i
    · subst e; simp
    · simp [e]
  have HO : Hid (Only lo hi w (w.setCell ⟨a, i, none⟩ (.int .i64 (s.N i + 1)))) := (Only.refl _ _ _).setCell (.inr ⟨sa.1, sa.2.1⟩) _
  have HB := Lib.hid (Bd_tickAt hb i)
  have HB0 := Lib.hid hb
  clear hc hb sa b02
  go_enter Try.func19, Try.ntmps19
  go_wp2
  go_loopw [5, 6, 32] (fun _ _ kv wr => Rel w lo hi p a b c n i s kv wr) (fun _ _ kv _ => n - (intOf kv).toNat)
  case atStart => exact ⟨0, Nat.zero_le _, rfl, HS.out, HO.out⟩
  case round =>
    obtain ⟨k, hk, rfl, hcr, hor⟩ := hrel
    clear c0 f0 x0 HS HO
    by_cases hlt : k < n
    · obtain ⟨j0, -, c0⟩ := hcr.c0
      obtain ⟨j1, -, c1⟩ := hcr.c1
      obtain ⟨j2, -, c2⟩ := hcr.c2
      have y0 := hcr.x0 0 (by omega)
      have yk := hcr.x0 k hlt
      have yb := hcr.x1 k hlt
      have yc := hcr.x2 k hlt
      dsimp only at y0 yk yb yc
      rw [half_at] at yb yc
      have g1 := hcr.f1 k
      have g2 := hcr.f2 k
      have hpb := hcr.pb
      have hpc := hcr.pc
      have hab := hcr.ab
      have hac := hcr.ac
      have hbc := hcr.bc
      have sb := hcr.sb
      have sc := hcr.sc
      have hl0 : (0:Int) < (n : Int) := by omega
      have hl1 : 0 < n := by omega
      have e0 := HB.out.1 0
      have ek := HB.out.1 k
      have eb := HB0.out.2.1 k
      have ec := HB0.out.2.2 k
      have HW : Hid (wrap64 (bump s.N i k - bump s.N i 0) = bump s.N i k - bump s.N i 0) := by
        refine wrap_in _ ?_
        simp only [St.tickAt] at e0 ek
        omega
      have HX : Hid (∀ (v1 v2 : Int), ClkAt ((wr.setCell ⟨b, k, none⟩ (.int .i64 v1)).setCell ⟨c, k, none⟩ (.int .i64 v2)) lo hi p a b c n ⟨bump s.N i, fun j => if j = k then v1 else half s.L (lesser s.L (bump s.N i)) k j, fun j => if j = k then v2 else half s.H (greater s.H (bump s.N i)) k j⟩ ∧ Only lo hi w ((wr.setCell ⟨b, k, none⟩ (.int .i64 v1)).setCell ⟨c, k, none⟩ (.int .i64 v2))) :=
        fun v1 v2 => ⟨(hcr.setL k v1 hlt).setH k v2 hlt, (hor.setCell (.inr ⟨sb.1, sb.2.1⟩) _).setCell (.inr ⟨sc.1, sc.2.1⟩) _⟩
      clear hcr hor e0 ek eb ec sb sc
      go_wp2
      refine reg_begin [43, 45] (by kernel_rfl) ?_
      refine reg_heads (by kernel_rfl) [0, 1, 2, 3, 4, 10, 11, 12, 13, 14, 15, 16, 17, 18, 19, 20, 21, 22, 23, 24, 25] 25 _ _ (by kernel_rfl) ?_
      simp only [List.map_cons, List.map_nil, Array.getD_eq_getD_getElem?, List.getElem?_toArray, List.getElem?_cons_zero, List.getElem?_cons_succ, Option.getD_some]
      iterate 21 still_step
      refine wpStill_nil ?_
      refine reg_calm (i := 5) (v := ?_) rfl (by kernel_rfl) (by kernel_rfl) (fun _ _ _ h => h) (Or.inl ⟨by rfl, ?_⟩) ?_
      rotate_left
      · intro w; go_simp; with_reducible rfl
      simp only [Act.put, List.setIfInBounds_toArray]
      refine reg_calm (i := 6) (v := ?_) rfl (by kernel_rfl) (by kernel_rfl) (fun _ _ _ h => h) (Or.inl ⟨by rfl, ?_⟩) ?_
      rotate_left
      · intro w; go_simp; with_reducible rfl
      simp only [Act.put]
      refine reg_calm (i := 7) (v := ?_) rfl (by kernel_rfl) (by kernel_rfl) (fun _ _ _ h => h) (Or.inl ⟨by rfl, ?_⟩) ?_
      rotate_left
      · intro w; go_simp; with_reducible rfl
      simp only [Act.put]
      refine reg_heads (by kernel_rfl) [8] 21 _ _ (by kernel_rfl) ?_
      simp only [List.map_cons, List.map_nil, Array.getD_eq_getD_getElem?, List.getElem?_toArray, List.getElem?_cons_zero, List.getElem?_cons_succ, Option.getD_some]
      iterate 1 still_step
      refine wpStill_nil ?_
      refine reg_calm (i := 9) (v := ?_) rfl (by kernel_rfl) (by kernel_rfl) (fun _ _ _ h => h) (Or.inl ⟨by rfl, ?_⟩) ?_
      rotate_left
      · intro w; go_simp; with_reducible rfl
      simp only [Act.put, List.setIfInBounds_toArray]
      refine reg_calm (i := 26) (v := ?_) rfl (by kernel_rfl) (by kernel_rfl) (fun _ _ _ h => h) (Or.inl ⟨by rfl, ?_⟩) ?_
      rotate_left
      · intro w; go_simp; with_reducible rfl
      simp only [Act.put]
      refine reg_calm (i := 27) (v := ?_) rfl (by kernel_rfl) (by kernel_rfl) (fun _ _ _ h => h) (Or.inl ⟨by rfl, ?_⟩) ?_
      rotate_left
      · intro w; go_simp; with_reducible rfl
      simp only [Act.put]
      refine reg_calm (i := 28) (v := ?_) rfl (by kernel_rfl) (by kernel_rfl) (fun _ _ _ h => h) (Or.inl ⟨by rfl, ?_⟩) ?_
      rotate_left
      · intro w; go_simp; with_reducible rfl
      simp only [Act.put]
      refine reg_heads (by kernel_rfl) [29] 16 _ _ (by kernel_rfl) ?_
      simp only [List.map_cons, List.map_nil, Array.getD_eq_getD_getElem?, List.getElem?_toArray, List.getElem?_cons_zero, List.getElem?_cons_succ, Option.getD_some]
      iterate 1 still_step
      refine wpStill_nil ?_
      refine reg_calm (i := 30) (v := ?_) rfl (by kernel_rfl) (by kernel_rfl) (fun _ _ _ h => h) (Or.inl ⟨by rfl, ?_⟩) ?_
      rotate_left
      · intro w; go_simp; with_reducible rfl
      simp only [Act.put, List.setIfInBounds_toArray]
      refine reg_calm (i := 31) (v := ?_) rfl (by kernel_rfl) (by kernel_rfl) (fun _ _ _ h => h) (Or.inl ⟨by rfl, ?_⟩) ?_
      rotate_left
      · intro w; go_simp; with_reducible rfl
      simp only [Act.put]
      refine reg_heads (by kernel_rfl) [32] 13 _ _ (by kernel_rfl) ?_
      simp only [List.map_cons, List.map_nil, Array.getD_eq_getD_getElem?, List.getElem?_toArray, List.getElem?_cons_zero, List.getElem?_cons_succ, Option.getD_some]
      iterate 1 still_step
      refine wpStill_nil ?_
      refine reg_calm (i := 33) (v := ?_) rfl (by kernel_rfl) (by kernel_rfl) (fun _ _ _ h => h) (Or.inl ⟨by rfl, ?_⟩) ?_
      rotate_left
      · intro w; go_simp; with_reducible rfl
      simp only [Act.put, List.setIfInBounds_toArray]
      refine reg_calm (i := 34) (v := ?_) rfl (by kernel_rfl) (by kernel_rfl) (fun _ _ _ h => h) (Or.inl ⟨by rfl, ?_⟩) ?_
      rotate_left
      · intro w; go_simp; with_reducible rfl
      simp only [Act.put]
      refine reg_calm (i := 35) (v := ?_) rfl (by kernel_rfl) (by kernel_rfl) (fun _ _ _ h => h) (Or.inl ⟨by rfl, ?_⟩) ?_
      rotate_left
      · intro w; go_simp; with_reducible rfl
      simp only [Act.put]
      refine reg_calm (i := 36) (v := ?_) rfl (by kernel_rfl) (by kernel_rfl) (fun _ _ _ h => h) (Or.inl ⟨by rfl, ?_⟩) ?_
      rotate_left
      · intro w; go_simp; with_reducible rfl
      simp only [Act.put]
      refine reg_heads (by kernel_rfl) [37] 8 _ _ (by kernel_rfl) ?_
      simp only [List.map_cons, List.map_nil, Array.getD_eq_getD_getElem?, List.getElem?_toArray, List.getElem?_cons_zero, List.getElem?_cons_succ, Option.getD_some]
      iterate 1 still_step
      refine wpStill_nil ?_
      refine reg_calm (i := 38) (v := ?_) rfl (by kernel_rfl) (by kernel_rfl) (fun _ _ _ h => h) (Or.inl ⟨by rfl, ?_⟩) ?_
      rotate_left
      · intro w; go_simp; with_reducible rfl
      simp only [Act.put, List.setIfInBounds_toArray]
      refine reg_heads (by kernel_rfl) [39, 42] 5 _ _ (by kernel_rfl) ?_
      simp only [List.map_cons, List.map_nil, Array.getD_eq_getD_getElem?, List.getElem?_toArray, List.getElem?_cons_zero, List.getElem?_cons_succ, Option.getD_some]
      iterate 2 still_step
      refine wpStill_nil ?_
      refine reg_calm (i := 40) (v := ?_) rfl (by kernel_rfl) (by kernel_rfl) (fun _ _ _ h => h) (Or.inl ⟨by rfl, ?_⟩) ?_
      rotate_left
      · intro w; go_simp; with_reducible rfl
      simp only [Act.put, List.setIfInBounds_toArray]
      refine reg_calm (i := 41) (v := ?_) rfl (by kernel_rfl) (by kernel_rfl) (fun _ _ _ h => h) (Or.inl ⟨by rfl, ?_⟩) ?_
      rotate_left
      · intro w; go_simp; with_reducible rfl
      simp only [Act.put]
      refine reg_turn (i := 43) rfl (by kernel_rfl) rfl (fun K hK => ?_)
      go_simp
      refine hK _ _ ?_; clear hK K
      refine reg_heads (by kernel_rfl) [44] 1 _ _ (by kernel_rfl) ?_
      simp only [List.map_cons, List.map_nil, Array.getD_eq_getD_getElem?, List.getElem?_toArray, List.getElem?_cons_zero, List.getElem?_cons_succ, Option.getD_some]
      iterate 1 still_step
      refine wpStill_nil ?_
      refine reg_turn (i := 45) rfl (by kernel_rfl) rfl (fun K hK => ?_)
      go_simp
      refine hK _ _ ?_; clear hK K
      refine reg_done (by kernel_rfl) ?_ _
      go_wp2
      go_roundw
      case rel =>
        refine ⟨k + 1, by omega, by go_num, ?_, ?_⟩
        · rw [HW.out, half_succ, half_succ]
          exact ((HX.out _ _).1).drew
        · exact (HX.out _ _).2.drew
      case measure => simp [intOf]; omega
    · obtain rfl : k = n := by omega
      have HC : Hid (Clk wr lo hi p k (s.tickAt i) ∧ Only lo hi w wr) := by
        refine ⟨⟨a, b, c, hcr.congr (fun _ _ => rfl) (fun j hj => ?_) (fun j hj => ?_)⟩, hor⟩
        · simp [half, hj, St.tickAt]
        · simp [half, hj, St.tickAt]
      clear hcr hor
      go_wp2
      go_ret
      exact ⟨rfl, HC.out⟩

theorem tick_any (w : World) (lo hi p n K : Nat) (s : St) (h : Clk w lo hi p n s) (hb : s.Bd K) (hK : K ≤ 1000000000) (t : Int) (hn : n ≤ 8) :
    Calls Try.prog 19 #[.pointer (some ⟨p, 0, none⟩), .int .i64 t] w fun e w' => e = .returned (.int .i64 (if 0 ≤ t ∧ t < n then 0 else 8)) ∧ Clk w' lo hi p n (s.tick n t) ∧ Only lo hi w w' := by
  by_cases ht : 0 ≤ t ∧ t < n
  · obtain ⟨k, rfl⟩ := Int.eq_ofNat_of_zero_le ht.1
    refine (tick_some w lo hi p n K s h hb hK k hn (by omega)).mono fun e w' ⟨he, hc, ho⟩ => ⟨?_, ?_, ho⟩
    · rw [he, if_pos ht]
    · rw [St.tick, if_pos ht]; exact hc
  · refine (tick_none w lo hi p n s h t hn (by omega)).mono fun e w' ⟨he, hw⟩ => ?_
    subst hw
    refine ⟨?_, ?_, Only.refl _ _ _⟩
    · rw [he, if_neg ht]
    · rw [St.tick, if_neg ht]; exact h
end Go.Proofs.Ytefllgpehhlkoaa
