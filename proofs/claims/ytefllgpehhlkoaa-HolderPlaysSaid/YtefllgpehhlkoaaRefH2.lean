/-
  The document's holder (tillerref19): unwant, unhave.
-/
import Derived.Test.YtefllgpehhlkoaaRefH1
import Derived.Test.YtefllgpehhlkoaaLease11
namespace Go.Proofs.Ytefllgpehhlkoaa
open Go.RowKit Go.Maps
set_option linter.unusedVariables false

theorem mdel_snoc_same {l : List Rec3} {place : Int} {j : Nat} {y : Rec3} (ht : l.take (j + 1) = l.take j ++ [y]) (h : y.1 = place) : mdel (l.take (j + 1)) place = mdel (l.take j) place := by
  rw [ht]; unfold mdel; rw [List.filter_append]; simp [h]
theorem mdel_snoc_other {l : List Rec3} {place : Int} {j : Nat} {y : Rec3} (ht : l.take (j + 1) = l.take j ++ [y]) (h : y.1 ≠ place) : mdel (l.take (j + 1)) place = mdel (l.take j) place ++ [y] := by
  rw [ht]; unfold mdel; rw [List.filter_append]; simp [h]
theorem rec_cells3 {L : Lay Rec3} (hk : L.k = 3) (w : World) (b : Nat) (p : Rec3) (henc : L.enc p = [p.1, p.2.1, p.2.2]) (t : TypeId) (h : w.heap[b]? = some (.cells #[.int .i64 p.1, .int .i64 p.2.1, .int .i64 p.2.2] t)) : ∀ j, j < L.k → w.cell? ⟨b, j, none⟩ = some (.int .i64 ((L.enc p).getD j 0)) := by
  intro j hj
  rw [hk] at hj
  rw [henc]
  have : j = 0 ∨ j = 1 ∨ j = 2 := by omega
  rcases this with rfl | rfl | rfl <;> simp [World.cell?, h]

/-- what the loop keeps -/
structure Un (L : Lay Rec3) (w W : World) (x0 x1 x2 x3 : Value) (ys : List Rec3) (v : Value) : Prop where
  box : RBox W w.heap.size x0 x1 x2 x3
  res : RBox W (w.heap.size + 1) (.int .i64 0) (.int .i64 0) (.slice none 0 0) (.slice none 0 0)
  own : OwnS L W (w.heap.size + 2) v ys
  only : Only w.heap.size w.heap.size w W
  size : w.heap.size + 2 ≤ W.heap.size
section
variable {L : Lay Rec3} {w W W' : World} {x0 x1 x2 x3 : Value} {ys zs : List Rec3} {v v' : Value}
theorem Un.kept (k : Un L w W x0 x1 x2 x3 ys v) (o : Only W.heap.size W.heap.size W W') : Un L w W' x0 x1 x2 x3 ys v :=
  have hz := k.size
  ⟨k.box.kept o (by omega) (.inl (by omega)), k.res.kept o (by omega) (.inl (by omega)), k.own.grown o, k.only.then o (by omega), Nat.le_trans hz o.size⟩
theorem Un.app (k : Un L w W x0 x1 x2 x3 ys v) (h : OwnS L W' (w.heap.size + 2) v' zs) (g : W.grownBy W' v.ownBlock) : Un L w W' x0 x1 x2 x3 zs v' := by
  have hz := k.size
  have o : Only (w.heap.size + 2) W.heap.size W W' := k.own.only g (fun b hb => (k.own.blocks b hb).2)
  exact ⟨k.box.kept o (by omega) (.inl (by omega)), k.res.kept o (by omega) (.inl (by omega)), h, k.only.fresh (o.mono (by omega) (Nat.le_refl _)), Nat.le_trans hz o.size⟩
end
def UnRel (L : Lay Rec3) (w : World) (x0 x1 x2 x3 : Value) (l : List Rec3) (place : Int) (vv jv : Value) (W : World) : Prop :=
  ∃ j : Nat, jv = .int .i64 j ∧ j ≤ l.length ∧ Un L w W x0 x1 x2 x3 (mdel (l.take j) place) vv
/-- what unwant, unhave leave: one list anew -/
def Unwanted (w : World) (life count : Int) (v2 : Value) (ys : List Rec3) (e : Ending) (w' : World) : Prop :=
  ∃ v, e = .returned (.agg #[.int .i64 life, .int .i64 count, v, v2]) ∧ OwnS layW w' w.heap.size v ys ∧ Only w.heap.size w.heap.size w w'
def Unhad (w : World) (life count : Int) (v1 : Value) (ys : List Rec3) (e : Ending) (w' : World) : Prop :=
  ∃ v, e = .returned (.agg #[.int .i64 life, .int .i64 count, v1, v]) ∧ OwnS layH w' w.heap.size v ys ∧ Only w.heap.size w.heap.size w w'

theorem build_133 (w : World) : (Instr.buildSlice 87 0 #[]).run Try.prog w = .ok (.slice (some ⟨w.heap.size, 0, none⟩) 0 0) (w.alloc (.cells #[] 133)) := by kernel_rfl
theorem build1_133 (w : World) (y0 y1 y2 : Int) : (Instr.buildSlice 87 1 #[(0, .agg #[.int .i64 y0, .int .i64 y1, .int .i64 y2])]).run Try.prog w = .ok (.slice (some ⟨w.heap.size, 0, none⟩) 1 1) (w.alloc (.cells #[.int .i64 y0, .int .i64 y1, .int .i64 y2] 133)) := by kernel_rfl
set_option maxRecDepth 100000 in
set_option maxHeartbeats 2000000 in
theorem unwant_any (w : World) (life count place : Int) (v1 v2 : Value) (l : List Rec3) (h : ReadS layW w v1 l) (hll : l.length ≤ 10000) (hv : ∃ a n c, v2 = .slice a n c) :
    Calls Try.prog 60 #[.agg #[.int .i64 life, .int .i64 count, v1, v2], .int .i64 place] w (Unwanted w life count v2 (mdel l place)) := by
  have hO : Hid (Only w.heap.size w.heap.size w w) := Lib.hid (Only.refl _ _ _)
  obtain ⟨a, cap, rfl, hl1, hl2, h3⟩ := h
  obtain ⟨oa, on, oc, rfl⟩ := hv
  have H3 := Lib.hid h3
  have hb0 := build_133
  have hb1 := build1_133
  clear h3
  go_enter Try.func60, Try.ntmps60
  go_wp2_with fail
  go_loopw [5, 12] (fun vv jv W => UnRel layW w (.int .i64 life) (.int .i64 count) (.slice a l.length cap) (.slice oa on oc) l place vv jv W) (fun _ jv _ => l.length - (intOf jv).toNat)
  case atStart =>
    refine ⟨0, rfl, Nat.zero_le _, RBox.of ((low_at _ _ _ (by first | (simp; done) | (simp; omega))).trans ((low_at _ _ _ (by simp)).trans (top_at _ _ _ rfl))), RBox.of ((low_at _ _ _ (by simp)).trans (top_at _ _ _ (by simp))), ?_, ((hO.out.alloc _).alloc _).alloc _, by simp⟩
    have h0 := OwnS.empty (L := layW) ((w.alloc (.cells #[.int .i64 life, .int .i64 count, .slice a l.length cap, .slice oa on oc] 90)).alloc (.cells #[.int .i64 0, .int .i64 0, .slice none 0 0, .slice none 0 0] 90)) (w.heap.size + 2) (by simp)
    have e : ((w.alloc (.cells #[.int .i64 life, .int .i64 count, .slice a l.length cap, .slice oa on oc] 90)).alloc (.cells #[.int .i64 0, .int .i64 0, .slice none 0 0, .slice none 0 0] 90)).heap.size = w.heap.size + 1 + 1 := by simp
    rw [e] at h0
    exact h0
  case round =>
    obtain ⟨j, rfl, hj, hu⟩ := hrel
    obtain ⟨ua, un, uc, rfl⟩ := own_val hu.own
    have hsz := hu.size
    have HU := Lib.hid hu
    have c0 := hu.box.c0
    have c1 := hu.box.c1
    have c2 := hu.box.c2
    have c3 := hu.box.c3
    have f2 := hu.box.fr 2
    clear hu
    by_cases hjl : j < l.length
    · obtain ⟨b, rfl, hb, hc⟩ : ∃ b, a = some ⟨b, 0, none⟩ ∧ b < w.heap.size ∧ ∀ i x, l[i]? = some x → ∀ k, k < 3 → w.cell? ⟨b, i * 3 + k, none⟩ = some (.int .i64 ((layW.enc x).getD k 0)) := by
        rcases H3.out with h0 | h0
        · rw [h0] at hjl; simp at hjl
        · exact h0
      have hg : l[j]? = some l[j] := List.getElem?_eq_getElem hjl
      have HT : Hid (l.take (j + 1) = l.take j ++ [l[j]]) := Lib.hid (List.take_succ_eq_append_getElem hjl)
      have hcc : ∀ k, k < 3 → wr.cell? ⟨b, j * 3 + k, none⟩ = some (.int .i64 ((layW.enc l[j]).getD k 0)) := fun k hk => (HU.out.only.cell (by exact hb) (.inl (by exact hb))).trans (hc j _ hg k hk)
      generalize l[j] = y at hcc HT
      obtain ⟨y0, y1, y2⟩ := y
      have p0 : wr.cell? ⟨b, j * 3, none⟩ = some (.int .i64 y0) := hcc 0 (by decide)
      have p1 : wr.cell? ⟨b, j * 3 + 1, none⟩ = some (.int .i64 y1) := hcc 1 (by decide)
      have p2 : wr.cell? ⟨b, j * 3 + 2, none⟩ = some (.int .i64 y2) := hcc 2 (by decide)
      clear hc hcc hg
      have HA := Lib.hid (HU.out.kept ((Only.refl wr.heap.size wr.heap.size wr).alloc (.cells #[.int .i64 y0, .int .i64 y1, .int .i64 y2] 133)))
      have HS : Hid ((mdel (l.take j) place).length ≤ 99999) := Lib.hid (by have h1 := mdel_len (l.take j) place; have h2 := List.length_take_le j l; omega)
      by_cases hy : y0 = place
      · have hy1 : (y0 != place) = false := by simp [hy]
        have HX : Hid (UnRel layW w (.int .i64 life) (.int .i64 count) (.slice (some ⟨b, 0, none⟩) l.length cap) (.slice oa on oc) l place (.slice ua un uc) (.int .i64 ((j : Int) + 1)) (wr.alloc (.cells #[.int .i64 y0, .int .i64 y1, .int .i64 y2] 133))) := Lib.hid ⟨j + 1, by go_num, hjl, by rw [mdel_snoc_same HT.out hy]; exact HA.out⟩
        clear hy
        go_wp2_with fail
        go_roundw
        case rel => exact HX.out
        case measure => simp [intOf]; omega
      · have hy1 : (y0 != place) = true := by simp [hy]
        have HM := Lib.hid (mdel_snoc_other HT.out hy)
        have HB := Lib.hid (fun A => HA.out.kept ((Only.refl _ _ (wr.alloc (.cells #[.int .i64 y0, .int .i64 y1, .int .i64 y2] 133))).alloc A))
        clear hy
        go_wp2_with (first
          | (at_builtin; refine wpList_append_one layW _ rfl (.tmp 20) (.tmp 22) rfl (w.heap.size + 2) _ (mdel (l.take j) place) (y0, (y1, y2)) rfl (HB.out _).own (wr.heap.size + 1) rfl (rec_cells3 rfl _ _ (y0, (y1, y2)) rfl _ (top_at _ _ _ (by simp))) (Nat.le_succ_of_le HS.out) (HB.out _).size ?_; intro v1' w4 hown' hg'; have HQ := Lib.hid ((HB.out _).app hown' hg'); obtain ⟨rva, rvn, rvc, rfl⟩ := own_val hown'; clear hown' hg')
          | fail)
        go_roundw
        case rel => exact ⟨j + 1, by go_num, hjl, by rw [HM.out]; exact HQ.out⟩
        case measure => simp [intOf]; omega
    · obtain rfl : j = l.length := by omega
      have HTK : Hid (l.take l.length = l) := Lib.hid (List.take_length)
      have r0 := HU.out.res.c0
      have r1 := HU.out.res.c1
      have r2 := HU.out.res.c2
      have r3 := HU.out.res.c3
      have g0 := HU.out.res.fr 0
      have g1 := HU.out.res.fr 1
      have g2 := HU.out.res.fr 2
      have g3 := HU.out.res.fr 3
      go_wp2_with fail
      have o1 := set_only wr w.heap.size 2 (.slice ua un uc)
      have b1 := HU.out.box.set2 (.slice ua un uc)
      have q1 := HU.out.res.kept o1 (by omega) (.inr (Nat.le_refl _))
      have n1 := HU.out.own.keptOnly o1 (by omega)
      have hE : RBox (World.rset (wr.setCell ⟨w.heap.size, 2, none⟩ (.slice ua un uc)) (w.heap.size + 1) (.int .i64 life) (.int .i64 count) (.slice ua un uc) (.slice oa on oc)) (w.heap.size + 1) (.int .i64 life) (.int .i64 count) (.slice ua un uc) (.slice oa on oc) := q1.set
      have hEO := rset_only (wr.setCell ⟨w.heap.size, 2, none⟩ (.slice ua un uc)) (w.heap.size + 1) (.int .i64 life) (.int .i64 count) (.slice ua un uc) (.slice oa on oc)
      unfold World.rset at hE hEO
      obtain ⟨k0, k1, k2, k3, _⟩ := hE
      refine bodyPost_ret (v := .agg #[.int .i64 life, .int .i64 count, .slice ua un uc, .slice oa on oc]) (by simp [results, Try.results60, go_sem, k0, k1, k2, k3]) rfl ?_
      rw [HTK.out] at n1
      exact ⟨_, rfl, (n1.keptOnly hEO (Nat.le_refl _)).mono (by omega), (HU.out.only.fresh o1).fresh (hEO.mono (by omega) (Nat.le_refl _))⟩

theorem build_137 (w : World) : (Instr.buildSlice 88 0 #[]).run Try.prog w = .ok (.slice (some ⟨w.heap.size, 0, none⟩) 0 0) (w.alloc (.cells #[] 137)) := by kernel_rfl
theorem build1_137 (w : World) (y0 y1 y2 : Int) : (Instr.buildSlice 88 1 #[(0, .agg #[.int .i64 y0, .int .i64 y1, .int .i64 y2])]).run Try.prog w = .ok (.slice (some ⟨w.heap.size, 0, none⟩) 1 1) (w.alloc (.cells #[.int .i64 y0, .int .i64 y1, .int .i64 y2] 137)) := by kernel_rfl
set_option maxRecDepth 100000 in
set_option maxHeartbeats 2000000 in
theorem unhave_any (w : World) (life count place : Int) (v1 v2 : Value) (l : List Rec3) (h : ReadS layH w v2 l) (hll : l.length ≤ 10000) (hv : ∃ a n c, v1 = .slice a n c) :
    Calls Try.prog 63 #[.agg #[.int .i64 life, .int .i64 count, v1, v2], .int .i64 place] w (Unhad w life count v1 (mdel l place)) := by
  have hO : Hid (Only w.heap.size w.heap.size w w) := Lib.hid (Only.refl _ _ _)
  obtain ⟨a, cap, rfl, hl1, hl2, h3⟩ := h
  obtain ⟨oa, on, oc, rfl⟩ := hv
  have H3 := Lib.hid h3
  have hb0 := build_137
  have hb1 := build1_137
  clear h3
  go_enter Try.func63, Try.ntmps63
  go_wp2_with fail
  go_loopw [5, 12] (fun vv jv W => UnRel layH w (.int .i64 life) (.int .i64 count) (.slice oa on oc) (.slice a l.length cap) l place vv jv W) (fun _ jv _ => l.length - (intOf jv).toNat)
  case atStart =>
    refine ⟨0, rfl, Nat.zero_le _, RBox.of ((low_at _ _ _ (by first | (simp; done) | (simp; omega))).trans ((low_at _ _ _ (by simp)).trans (top_at _ _ _ rfl))), RBox.of ((low_at _ _ _ (by simp)).trans (top_at _ _ _ (by simp))), ?_, ((hO.out.alloc _).alloc _).alloc _, by simp⟩
    have h0 := OwnS.empty (L := layH) ((w.alloc (.cells #[.int .i64 life, .int .i64 count, .slice oa on oc, .slice a l.length cap] 90)).alloc (.cells #[.int .i64 0, .int .i64 0, .slice none 0 0, .slice none 0 0] 90)) (w.heap.size + 2) (by simp)
    have e : ((w.alloc (.cells #[.int .i64 life, .int .i64 count, .slice oa on oc, .slice a l.length cap] 90)).alloc (.cells #[.int .i64 0, .int .i64 0, .slice none 0 0, .slice none 0 0] 90)).heap.size = w.heap.size + 1 + 1 := by simp
    rw [e] at h0
    exact h0
  case round =>
    obtain ⟨j, rfl, hj, hu⟩ := hrel
    obtain ⟨ua, un, uc, rfl⟩ := own_val hu.own
    have hsz := hu.size
    have HU := Lib.hid hu
    have c0 := hu.box.c0
    have c1 := hu.box.c1
    have c2 := hu.box.c2
    have c3 := hu.box.c3
    have f2 := hu.box.fr 3
    clear hu
    by_cases hjl : j < l.length
    · obtain ⟨b, rfl, hb, hc⟩ : ∃ b, a = some ⟨b, 0, none⟩ ∧ b < w.heap.size ∧ ∀ i x, l[i]? = some x → ∀ k, k < 3 → w.cell? ⟨b, i * 3 + k, none⟩ = some (.int .i64 ((layH.enc x).getD k 0)) := by
        rcases H3.out with h0 | h0
        · rw [h0] at hjl; simp at hjl
        · exact h0
      have hg : l[j]? = some l[j] := List.getElem?_eq_getElem hjl
      have HT : Hid (l.take (j + 1) = l.take j ++ [l[j]]) := Lib.hid (List.take_succ_eq_append_getElem hjl)
      have hcc : ∀ k, k < 3 → wr.cell? ⟨b, j * 3 + k, none⟩ = some (.int .i64 ((layH.enc l[j]).getD k 0)) := fun k hk => (HU.out.only.cell (by exact hb) (.inl (by exact hb))).trans (hc j _ hg k hk)
      generalize l[j] = y at hcc HT
      obtain ⟨y0, y1, y2⟩ := y
      have p0 : wr.cell? ⟨b, j * 3, none⟩ = some (.int .i64 y0) := hcc 0 (by decide)
      have p1 : wr.cell? ⟨b, j * 3 + 1, none⟩ = some (.int .i64 y1) := hcc 1 (by decide)
      have p2 : wr.cell? ⟨b, j * 3 + 2, none⟩ = some (.int .i64 y2) := hcc 2 (by decide)
      clear hc hcc hg
      have HA := Lib.hid (HU.out.kept ((Only.refl wr.heap.size wr.heap.size wr).alloc (.cells #[.int .i64 y0, .int .i64 y1, .int .i64 y2] 137)))
      have HS : Hid ((mdel (l.take j) place).length ≤ 99999) := Lib.hid (by have h1 := mdel_len (l.take j) place; have h2 := List.length_take_le j l; omega)
      by_cases hy : y0 = place
      · have hy1 : (y0 != place) = false := by simp [hy]
        have HX : Hid (UnRel layH w (.int .i64 life) (.int .i64 count) (.slice oa on oc) (.slice (some ⟨b, 0, none⟩) l.length cap) l place (.slice ua un uc) (.int .i64 ((j : Int) + 1)) (wr.alloc (.cells #[.int .i64 y0, .int .i64 y1, .int .i64 y2] 137))) := Lib.hid ⟨j + 1, by go_num, hjl, by rw [mdel_snoc_same HT.out hy]; exact HA.out⟩
        clear hy
        go_wp2_with fail
        go_roundw
        case rel => exact HX.out
        case measure => simp [intOf]; omega
      · have hy1 : (y0 != place) = true := by simp [hy]
        have HM := Lib.hid (mdel_snoc_other HT.out hy)
        have HB := Lib.hid (fun A => HA.out.kept ((Only.refl _ _ (wr.alloc (.cells #[.int .i64 y0, .int .i64 y1, .int .i64 y2] 137))).alloc A))
        clear hy
        go_wp2_with (first
          | (at_builtin; refine wpList_append_one layH _ rfl (.tmp 20) (.tmp 22) rfl (w.heap.size + 2) _ (mdel (l.take j) place) (y0, (y1, y2)) rfl (HB.out _).own (wr.heap.size + 1) rfl (rec_cells3 rfl _ _ (y0, (y1, y2)) rfl _ (top_at _ _ _ (by simp))) (Nat.le_succ_of_le HS.out) (HB.out _).size ?_; intro v1' w4 hown' hg'; have HQ := Lib.hid ((HB.out _).app hown' hg'); obtain ⟨rva, rvn, rvc, rfl⟩ := own_val hown'; clear hown' hg')
          | fail)
        go_roundw
        case rel => exact ⟨j + 1, by go_num, hjl, by rw [HM.out]; exact HQ.out⟩
        case measure => simp [intOf]; omega
    · obtain rfl : j = l.length := by omega
      have HTK : Hid (l.take l.length = l) := Lib.hid (List.take_length)
      have r0 := HU.out.res.c0
      have r1 := HU.out.res.c1
      have r2 := HU.out.res.c2
      have r3 := HU.out.res.c3
      have g0 := HU.out.res.fr 0
      have g1 := HU.out.res.fr 1
      have g2 := HU.out.res.fr 2
      have g3 := HU.out.res.fr 3
      go_wp2_with fail
      have o1 := set_only wr w.heap.size 3 (.slice ua un uc)
      have b1 := HU.out.box.set3 (.slice ua un uc)
      have q1 := HU.out.res.kept o1 (by omega) (.inr (Nat.le_refl _))
      have n1 := HU.out.own.keptOnly o1 (by omega)
      have hE : RBox (World.rset (wr.setCell ⟨w.heap.size, 3, none⟩ (.slice ua un uc)) (w.heap.size + 1) (.int .i64 life) (.int .i64 count) (.slice oa on oc) (.slice ua un uc)) (w.heap.size + 1) (.int .i64 life) (.int .i64 count) (.slice oa on oc) (.slice ua un uc) := q1.set
      have hEO := rset_only (wr.setCell ⟨w.heap.size, 3, none⟩ (.slice ua un uc)) (w.heap.size + 1) (.int .i64 life) (.int .i64 count) (.slice oa on oc) (.slice ua un uc)
      unfold World.rset at hE hEO
      obtain ⟨k0, k1, k2, k3, _⟩ := hE
      refine bodyPost_ret (v := .agg #[.int .i64 life, .int .i64 count, .slice oa on oc, .slice ua un uc]) (by simp [results, Try.results63, go_sem, k0, k1, k2, k3]) rfl ?_
      rw [HTK.out] at n1
      exact ⟨_, rfl, (n1.keptOnly hEO (Nat.le_refl _)).mono (by omega), (HU.out.only.fresh o1).fresh (hEO.mono (by omega) (Nat.le_refl _))⟩
end Go.Proofs.Ytefllgpehhlkoaa
