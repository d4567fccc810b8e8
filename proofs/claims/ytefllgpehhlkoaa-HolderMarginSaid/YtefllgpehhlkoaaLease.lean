/-
  The lease (layer 18): what is over is left out.
-/
import Derived.Test.YtefllgpehhlkoaaClone
import Derived.Maps.RangeWalk
import Derived.Maps.Ext
import Derived.Lib.SlMapFilter
import Derived.Laws.IdiomRangeMap
import Derived.Deep.LoopGhost
import Derived.WalkSpells
import Derived.WalkLawsBesides
import Derived.BigQuiet
import Derived.BigRegion
namespace Go.Proofs.Ytefllgpehhlkoaa
open Go.RowKit Go.Maps

abbrev Trips := List (Int × (Int × Int × Int))

set_option maxRecDepth 100000 in
theorem over_any (w : World) (key x y z now : Int) (c : Nat) (hc : w.cell? ⟨c, 0, none⟩ = some (.int .i64 now)) :
    Calls Try.prog 69 #[.int .i64 key, .agg #[.int .i64 x, .int .i64 y, .int .i64 z], .pointer (some ⟨c, 0, none⟩)] w fun e w' => e = .returned (.bool (decide (z ≤ now))) ∧ w' = w.alloc (.cells #[.int .i64 x, .int .i64 y, .int .i64 z] 82) := by
  have hc2 : ∀ o, (w.alloc o).cell? ⟨c, 0, none⟩ = some (.int .i64 now) := fun o => (World.cell?_alloc_lt w o ⟨c, 0, none⟩ (World.block_lt_of_cell? w _ hc)).trans hc
  go_enter Try.func69, Try.ntmps69
  go_wp2
  go_ret
  exact ⟨rfl, rfl⟩

/-- those that last -/
def lasting (es : Trips) (now : Int) : Trips := es.filter fun p => decide (now < p.2.2.2)
/-- what is over, on data -/
def overD (now : Int) : Lit → DataW Unit → Bool := fun _ d => match d with
  | .agg [_, _, .lit (.int .i64 z)] => decide (z ≤ now)
  | _ => false
theorem overD_enc (now : Int) (l : Lit) (x : Int × Int × Int) : overD now l (tripE.enc x) = decide (x.2.2 ≤ now) := rfl
theorem overD_dat (es : Trips) (now : Int) : Lib.deleteFuncD (overD now) (dat tripE es) = dat tripE (lasting es now) := by
  show DataW.map ((es.map (ent tripE)).filter fun p => !overD now p.1 p.2) = DataW.map ((lasting es now).map (ent tripE))
  unfold lasting
  rw [List.filter_map]
  congr 3
  funext p
  show (!decide (p.2.2.2 ≤ now)) = decide (now < p.2.2.2)
  by_cases h : p.2.2.2 ≤ now
  · simp [h]
  · simp [h]; omega

theorem grown_two (w : World) (A B : Obj) : w.grownBy ((w.alloc A).alloc B) none :=
  ⟨rfl, rfl, rfl, by simp; omega, fun k hk _ => by rw [Below.heap_alloc _ _ _ (by simp; omega), Below.heap_alloc _ _ _ hk]⟩
theorem MapAt.no_cell3 {α : Type} {E : Elem α} {w : World} {b i : Nat} {es : List (Int × α)} (h : MapAt E w b es) : w.cell? ⟨b, i, none⟩ = none := by
  obtain ⟨xs, clock, hb, _⟩ := h
  simp [World.cell?, hb]

set_option maxHeartbeats 4000000 in
set_option maxRecDepth 100000 in
theorem sweep_some (w : World) (b c : Nat) (es : Trips) (now : Int) (h : MapAt tripE w b es) (hc : w.cell? ⟨c, 0, none⟩ = some (.int .i64 now)) :
    Calls Try.prog 70 #[.map (some b), .func (.func 69) #[] #[.pointer (some ⟨c, 0, none⟩)]] w fun e w' => e = .returned (.tuple #[]) ∧ MapAt tripE w' b (lasting es now) ∧ w.grownBy w' (some b) := by
  have HC := Lib.hid hc
  have HH := Lib.hid h
  have hown : w.ownsMap Try.prog 3 tripE.R b es.length (dat tripE es) := h
  obtain ⟨es0, hes, hap, hkeys⟩ := hown.entries law3
  have HK := Lib.hid hkeys
  have HP := Lib.hid hap
  have HE := Lib.hid hes
  have HW := Lib.hid hown
  clear hc h hown hap hkeys hes
  go_enter Try.func70, Try.ntmps70
  go_wp2_with (first
    | (at_range; refine wpList_range_own _ rfl _ 55 rfl 3 82 law3 Try.underlying55 tripE.R b es.length _ rfl HW.out ?_; intro w0 hrg0 hg0 hs0)
    | fail)
  go_frame
  rw [HE.out] at hrg0
  have H0 : Hid (w0.ranges Try.prog 3 tripE.R b w.heap.size es.length (Fk (overD now) es0 (has (DataW.map es0))) (has (DataW.map es0)) (size (DataW.map es0)) ∧ w.grownBy w0 none) := Lib.hid ⟨by rw [Fk_start HK.out]; exact hrg0, hg0⟩
  clear hrg0 hg0 hs0
  go_loopw [8] (fun _ wr => ∃ (left : Lit → Bool) (cnt : Nat), wr.ranges Try.prog 3 tripE.R b w.heap.size es.length (Fk (overD now) es0 left) left cnt ∧ w.grownBy wr (some b))
    (fun _ wr => wr.rangeLeft b w.heap.size)
  case atStart => exact ⟨_, _, H0.out.1, H0.out.2.but _⟩
  case round =>
    obtain ⟨left, cnt, hrg, hgw⟩ := hrel
    go_wp2_with (first
      | (at_next; refine wpList_next_ranges _ rfl _ rfl 3 law3 tripE.R (fun x : Int => Value.int .i64 x) tripE.val (fun key kl hk => (Maps.keyOf_int_inv Try.underlying3 hk).elim fun x hx => ⟨x, hx.1⟩) (fun v y hv => (tripE.inv v y hv).elim fun x hx => ⟨x, hx.1⟩) b w.heap.size es.length _ _ _ rfl hrg ?_ ?_)
      | fail)
    · intro _ hl0
      go_wp2
      go_end0
      refine ⟨rfl, MapAt.of _ _ es.length _ ?_, hgw⟩
      rw [← overD_dat, HE.out, ← Fk_end hl0]
      exact hrg.owns
    · intro x v0 v1 v2 kl yd yp w1 cnt1 hkey hlx hv hat hrg1 hlt hg1 hs1 hen
      have hgw1 := hgw.andThen hg1 (fun j hj => by cases hj; exact Or.inl (Nat.le_refl _))
      have hbl := hrg1.owns.lt
      have hrl := hrg1.lt
      have hyd : yd = tripE.enc (v0, v1, v2) := by
        rw [tripE.hR] at hv
        simp at hv
        exact hv.1.symm
      subst hyd
      have hcb : c ≠ b := by
        intro e
        subst e
        have := HC.out
        rw [HH.out.no_cell3] at this
        cases this
      have hc1 : ∀ o, (w1.alloc o).cell? ⟨c, 0, none⟩ = some (.int .i64 now) := fun o => by
        have hcl := World.block_lt_of_cell? w _ HC.out
        have o1 : Only b (b + 1) w w1 := Only.of_grown hgw1
        rw [World.cell?_alloc_lt w1 o ⟨c, 0, none⟩ (Nat.lt_of_lt_of_le hcl o1.size), o1.cell hcl (by show c < b ∨ b + 1 ≤ c; omega)]
        exact HC.out
      have HQ := Lib.hid hc1
      have hen2 : Sem.run Try.prog (Instr.entry (Value.pointer (some ⟨w.heap.size, 0, none⟩))) w1 = Result.ok (Value.tuple #[Value.int .i64 x, .agg #[.int .i64 v0, .int .i64 v1, .int .i64 v2]]) w1 := hen
      have G2 := Lib.hid (grown_two w1 (.cells #[.int .i64 v0, .int .i64 v1, .int .i64 v2] 82) (.cells #[.int .i64 v0, .int .i64 v1, .int .i64 v2] 82))
      have HRG := Lib.hid hrg1
      have HRO := Lib.hid hrg
      have HGW := Lib.hid hgw1
      have HAT := Lib.hid hat
      have HKEY := Lib.hid hkey
      clear hen hc1 hv hgw hgw1 hg1 hrg1 hrg hat hkey hs1 hbl hrl
      by_cases hp : v2 ≤ now
      · have hpd : decide (v2 ≤ now) = true := decide_eq_true hp
        go_wp2_with (first
          | (go_at_call 69; refine (over_any _ x v0 v1 v2 now c (HQ.out _)).mono ?_; rintro e w2 ⟨rfl, rfl⟩)
          | (at_delete; refine wpList_delete_ranges _ rfl _ _ 55 3 rfl 82 law3 Try.underlying55 tripE.R b w.heap.size es.length _ _ _ rfl (HRG.out.kept G2.out (by simp) (by simp)) _ _ rfl HKEY.out ?_; intro w3 cnt3 hrg3 hle hturn; go_frame)
          | fail)
        rw [strike_twice] at hrg3
        go_roundw
        case rel => exact ⟨_, cnt3, by rw [← Fk_struck HP.out (law3.key HKEY.out) hlx (by rw [overD_enc]; exact hpd) HAT.out]; exact hrg3, (HGW.out.andThen G2.out (fun j hj => by cases hj)).andThen hturn.grown (fun j hj => by cases hj; exact Or.inr rfl)⟩
        case measure => rw [hrg3.left_eq, HRO.out.left_eq]; omega
      · have hpd : decide (v2 ≤ now) = false := decide_eq_false hp
        go_wp2_with (first
          | (go_at_call 69; refine (over_any _ x v0 v1 v2 now c (HQ.out _)).mono ?_; rintro e w2 ⟨rfl, rfl⟩)
          | fail)
        have hrg2 := HRG.out.kept G2.out (by simp) (by simp)
        go_roundw
        case rel => exact ⟨_, cnt1, by rw [← Fk_stays HP.out (law3.key HKEY.out) hlx (by rw [overD_enc]; exact hpd) HAT.out]; exact hrg2, HGW.out.andThen G2.out (fun j hj => by cases hj)⟩
        case measure => rw [hrg2.left_eq, HRO.out.left_eq]; exact hlt
end Go.Proofs.Ytefllgpehhlkoaa
