/-
  The lease (layer 18): Count, its walk.
-/
import Derived.Test.YtefllgpehhlkoaaLease7
namespace Go.Proofs.Ytefllgpehhlkoaa
open Go.RowKit Go.Maps

theorem World.grownBy.allocs (w : World) (A : Obj) : w.grownBy (w.alloc A) none := ⟨rfl, rfl, rfl, by simp, fun k hk _ => Below.heap_alloc _ _ _ hk⟩
def CntRel (w : World) (b r : Nat) (es : Trips) (now : Int) (n : Value) (wr : World) : Prop :=
  ∃ (left : Lit → Bool) (cnt : Nat), n = .int .i64 (cntSeen now left es : Nat) ∧ wr.ranges Try.prog 3 tripE.R b r es.length (dat tripE es) left cnt ∧ Only w.heap.size w.heap.size w wr
theorem mget_some_of {es : Trips} {p : Int × Int × Int × Int} (hp : p ∈ es) : (mget es p.1).isSome = true := by
  unfold mget
  rw [Option.isSome_map, List.find?_isSome]
  exact ⟨p, hp, by simp⟩
theorem pair_keys {es : Trips} {es0 : List (Lit × DataW Unit)} (h : dat tripE es = .map es0) (hap : es0.Pairwise (fun p q => p.1 ≠ q.1)) : es.Pairwise (fun p q => p.1 ≠ q.1) := by
  have h1 : es.map (ent tripE) = es0 := by
    have : DataW.map (es.map (ent tripE)) = DataW.map es0 := h
    injection this
  rw [← h1, List.pairwise_map] at hap
  exact hap.imp (fun hh e => hh (by simp [ent, e]))
theorem hat_get {es : Trips} {x : Int} {y : DataW Unit} {v : Int × Int × Int} (h : ∀ zd, (dat tripE es).atKey (.int .i64 x) zd = y) (hy : y = tripE.enc v) : mget es x = some v := by
  have h1 := h .nil
  rw [dat_atKey] at h1
  cases hm : mget es x with
  | none => rw [hm] at h1; simp only at h1; rw [hy] at h1; cases h1
  | some u => rw [hm] at h1; simp only at h1; rw [hy] at h1; rw [tripE.inj _ _ h1]

set_option maxHeartbeats 4000000 in
set_option maxRecDepth 100000 in
theorem count_some (w : World) (epoch quiet now : Int) (b : Nat) (es : Trips) (h : MapAt tripE w b es) (hlen : es.length < 1000000) :
    Calls Try.prog 35 #[lval epoch quiet (some b), .int .i64 now] w fun e w' => e = .returned (.int .i64 (lasting es now).length) ∧ Only w.heap.size w.heap.size w w' := by
  have hown : (w.alloc (.cells #[.int .i64 epoch, .int .i64 quiet, .map (some b)] 57)).ownsMap Try.prog 3 tripE.R b es.length (dat tripE es) := h.kept ((Only.refl w.heap.size w.heap.size w).alloc _) (.inl h.lt)
  obtain ⟨es0, hes, hap, hkeys⟩ := hown.entries law3
  have HP := Lib.hid (pair_keys hes hap)
  have HW := Lib.hid hown
  have HN := Lib.hid hlen
  clear hown hap hkeys hes h hlen
  unfold lval
  go_enter Try.func35, Try.ntmps35
  go_wp2_with (first
    | (at_range; refine wpList_range_own _ rfl _ 55 rfl 3 82 law3 Try.underlying55 tripE.R b es.length _ rfl HW.out ?_; intro w0 hrg0 hg0 hs0)
    | fail)
  go_frame
  have hcl : ∀ left, cntSeen now left es ≤ es.length := fun left => List.length_filter_le _ _
  have HL := Lib.hid hcl
  clear hcl
  have H0 : Hid (w0.ranges Try.prog 3 tripE.R b (w.alloc (.cells #[.int .i64 epoch, .int .i64 quiet, .map (some b)] 57)).heap.size es.length (dat tripE es) (has (dat tripE es)) (size (dat tripE es)) ∧ Only w.heap.size w.heap.size w w0) := Lib.hid ⟨hrg0, ((Only.refl _ _ w).alloc _).trans (Only.of_grown_none hg0)⟩
  clear hrg0 hg0 hs0
  go_loopw [5, 11] (fun n _ wr => CntRel w b (w.alloc (.cells #[.int .i64 epoch, .int .i64 quiet, .map (some b)] 57)).heap.size es now n wr)
    (fun _ _ wr => wr.rangeLeft b (w.alloc (.cells #[.int .i64 epoch, .int .i64 quiet, .map (some b)] 57)).heap.size)
  case atStart => exact ⟨_, _, by rw [cntSeen_start now es _ (fun p hp => by rw [dat_has]; exact mget_some_of hp)]; rfl, H0.out.1, H0.out.2⟩
  case round =>
    obtain ⟨left, cnt, rfl, hrg, hgw⟩ := hrel
    have hle := HL.out left
    have hnn := HN.out
    go_wp2_with (first
      | (at_next; go_loud (refine wpList_next_ranges _ rfl _ rfl 3 law3 tripE.R (fun x : Int => Value.int .i64 x) tripE.val (fun key kl hk => (Maps.keyOf_int_inv Try.underlying3 hk).elim fun x hx => ⟨x, hx.1⟩) (fun v y hv => (tripE.inv v y hv).elim fun x hx => ⟨x, hx.1⟩) b (w.alloc (.cells #[.int .i64 epoch, .int .i64 quiet, .map (some b)] 57)).heap.size es.length _ _ _ rfl hrg ?_ ?_))
      | fail)
    · intro _ hl0
      go_wp2
      go_ret
      refine ⟨?_, hgw⟩
      rw [← cntSeen_end now es left hl0]
      rfl
    · intro x v0 v1 v2 kl yd yp w1 cnt1 hkey hlx hv hat hrg1 hlt hg1 hs1 hen
      have hyd : yd = tripE.enc (v0, v1, v2) := by
        rw [tripE.hR] at hv
        simp at hv
        exact hv.1.symm
      obtain ⟨x', hx', hkl, _⟩ := Maps.keyOf_int_inv Try.underlying3 hkey
      obtain rfl : x = x' := by simpa using hx'
      subst hkl
      have hst := cntSeen_step now left x (v0, v1, v2) hlx es HP.out (hat_get hat hyd)
      have hgw1 : Only w.heap.size w.heap.size w w1 := hgw.fresh ((Only.of_grown hg1).mono (by simp) (Nat.le_refl _))
      have hen2 : Sem.run Try.prog (Instr.entry (Value.pointer (some ⟨w.heap.size + 1, 0, none⟩))) w1 = Result.ok (Value.tuple #[Value.int .i64 x, .agg #[.int .i64 v0, .int .i64 v1, .int .i64 v2]]) w1 := hen
      have HS := Lib.hid hst
      have HRG := Lib.hid (hrg1.kept (row := none) (World.grownBy.allocs w1 (.cells #[.int .i64 v0, .int .i64 v1, .int .i64 v2] 82)) (by simp) (by simp))
      have HRO := Lib.hid hrg
      have HGW := Lib.hid (hgw1.alloc (.cells #[.int .i64 v0, .int .i64 v1, .int .i64 v2] 82))
      clear hst hrg hrg1 hgw hgw1 hg1 hs1 hen hat hv hkey hyd hx'
      by_cases hp : now < v2
      · have hd : decide (now < v2) = true := decide_eq_true hp
        go_wp2
        go_roundw
        case rel => exact ⟨_, cnt1, by rw [HS.out, if_pos hp]; go_num, HRG.out, HGW.out⟩
        case measure => have e1 := HRG.out.left_eq; have e2 := HRO.out.left_eq; simp at e1 e2 ⊢; omega
      · have hd : decide (now < v2) = false := decide_eq_false hp
        go_wp2
        go_roundw
        case rel => exact ⟨_, cnt1, by rw [HS.out, if_neg (by show ¬ now < v2; omega), Nat.add_zero], HRG.out, HGW.out⟩
        case measure => have e1 := HRG.out.left_eq; have e2 := HRO.out.left_eq; simp at e1 e2 ⊢; omega
set_option maxHeartbeats 2000000 in
theorem count_nil (w : World) (epoch quiet now : Int) : Calls Try.prog 35 #[lval epoch quiet none, .int .i64 now] w fun e w' => e = .returned (.int .i64 0) ∧ Only w.heap.size w.heap.size w w' := by
  have hO : Hid (Only w.heap.size w.heap.size w w) := Lib.hid (Only.refl _ _ _)
  have hrg := fun w => run_range_nilMap (P := Try.prog) w 55 _ _ Try.underlying55
  have hnx : ∀ (w : World) ty, (Instr.next (.pointer (some ⟨w.heap.size, 0, none⟩)) false ty).run Try.prog (w.alloc (.mapIter none 0 #[] 0)) = _ := fun w ty => run_next_nilMap _ ty 0 0 #[]
  have hnx1 := hnx (w.alloc (.cells #[.int .i64 epoch, .int .i64 quiet, .map none] 57))
  simp at hnx1
  unfold lval
  go_enter Try.func35, Try.ntmps35
  go_wp2
  refine wp_loop_rounds 1 ?_
  rw [rounds_succ]
  go_wp2
  go_ret
  exact ⟨rfl, (hO.out.alloc _).alloc _⟩

theorem count_any (w : World) (epoch quiet now : Int) (m : Option Nat) (es : Trips) (h : MapIs tripE w m es) (hlen : es.length < 1000000) :
    Calls Try.prog 35 #[lval epoch quiet m, .int .i64 now] w fun e w' => e = .returned (.int .i64 (lasting es now).length) ∧ Only w.heap.size w.heap.size w w' := by
  cases m with
  | none => obtain rfl : es = [] := h; exact count_nil w epoch quiet now
  | some b => exact count_some w epoch quiet now b es h hlen
end Go.Proofs.Ytefllgpehhlkoaa
