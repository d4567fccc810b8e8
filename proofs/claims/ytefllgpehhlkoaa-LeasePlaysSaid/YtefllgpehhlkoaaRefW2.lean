/-
  The document's lease (tillerref18): with, its walk.
-/
import Derived.Test.YtefllgpehhlkoaaRefW
namespace Go.Proofs.Ytefllgpehhlkoaa
open Go.RowKit Go.Maps
set_option linter.unusedVariables false

/-- what 'with' leaves -/
def Withed (w : World) (epoch quiet : Int) (out : Trips) (e : Ending) (w' : World) : Prop := ∃ v, e = .returned (xval epoch quiet v) ∧ OwnS hold4 w' w.heap.size v out ∧ Only w.heap.size w.heap.size w w'
/-- the result is stored -/
theorem wi_end {w W : World} {epoch quiet : Int} {mm : Rec4} {out : Trips} {v : Value} (h : Wi w W epoch quiet mm out v) :
    XBox (World.xthree W (w.heap.size + 2) epoch quiet v) (w.heap.size + 2) epoch quiet v ∧ Withed w epoch quiet out (.returned (xval epoch quiet v)) (World.xthree W (w.heap.size + 2) epoch quiet v) := by
  have hz := h.size
  have o := xthree_only W (w.heap.size + 2) epoch quiet v
  exact ⟨h.res.three, v, rfl, (h.own.keptOnly o (by omega)).mono (by omega), h.only.fresh (o.mono (by omega) (Nat.le_refl _))⟩
theorem wi_all {w W X : World} {epoch quiet : Int} {mm : Rec4} {out : Trips} {v : Value} (h : Wi w W epoch quiet mm out v) (hg : W.grownBy X v.ownBlock) : XBox X (w.heap.size + 3) epoch quiet v ∧ XBox X (w.heap.size + 2) 0 0 (.slice none 0 0) := by
  have hz := h.size
  have o : Only (w.heap.size + 4) W.heap.size W X := h.own.only hg (fun g e => (h.own.blocks g e).2)
  exact ⟨h.box.kept o (by omega) (.inl (by omega)), h.res.kept o (by omega) (.inl (by omega))⟩

set_option maxRecDepth 100000 in
set_option maxHeartbeats 4000000 in
theorem with_put (w : World) (epoch quiet now place : Int) (v : Value) (l : Trips) (h : ReadS hold4 w v l) (hll : l.length ≤ 10000) (mp m1 m2 m3 : Int) (hm0 : (m3 == 0) = false) (hmp : mp = place) :
    Calls Try.prog 57 #[.agg #[.int .i64 epoch, .int .i64 quiet, v], .int .i64 now, .int .i64 place, .agg #[.int .i64 mp, .int .i64 m1, .int .i64 m2, .int .i64 m3]] w (Withed w epoch quiet (mput (lasting l now) place (m1, m2, m3))) := by
  have hO : Hid (Only w.heap.size w.heap.size w w) := Lib.hid (Only.refl _ _ _)
  obtain ⟨a, cap, rfl, hl1, hl2, h3⟩ := h
  have H3 := Lib.hid h3
  have HME : Hid (((place, (m1, m2, m3)) : Rec4) = (mp, (m1, m2, m3))) := Lib.hid (by rw [hmp])
  have hb1 := build_rec
  clear h3 hmp
  go_enter Try.func57, Try.ntmps57
  go_wp2_with fail
  go_loopw [10, 24] (fun dv jv W => WiRel w epoch quiet now place (mp, (m1, m2, m3)) l false dv jv W) (fun _ jv _ => l.length - (intOf jv).toNat)
  case atStart =>
    refine ⟨0, .slice none 0 0, rfl, Nat.zero_le _, rfl, ?_⟩
    refine ⟨XBox.of (top_at _ _ _ (by simp)), OwnS.nil _ _ _, T4.of ((low_at _ _ _ (by first | (simp; done) | (simp; omega))).trans ((low_at _ _ _ (by simp)).trans (top_at _ _ _ (by simp)))), XBox.of ((low_at _ _ _ (by simp)).trans (top_at _ _ _ (by simp))), (((hO.out.alloc _).alloc _).alloc _).alloc _, by simp⟩
  case round =>
    obtain ⟨j, v, rfl, hj, rfl, hw⟩ := hrel
    obtain ⟨av, an, ac, rfl⟩ := own_val hw.own
    have hsz := hw.size
    have HS : Hid ((outM false place (m1, m2, m3) (lasting (l.take j) now)).length ≤ 99999) := Lib.hid (by have h1 := outM_len false place (m1, m2, m3) (lasting (l.take j) now); have h2 := lasting_len (l.take j) now; have h3 := List.length_take_le j l; omega)
    have HW := Lib.hid hw
    clear hw
    by_cases hjl : j < l.length
    · obtain ⟨b, rfl, hb, hc⟩ : ∃ b, a = some ⟨b, 0, none⟩ ∧ b < w.heap.size ∧ ∀ i x, l[i]? = some x → ∀ k, k < 4 → w.cell? ⟨b, i * 4 + k, none⟩ = some (.int .i64 ((hold4.enc x).getD k 0)) := by
        rcases H3.out with h0 | h0
        · rw [h0] at hjl; simp at hjl
        · exact h0
      have hg : l[j]? = some l[j] := List.getElem?_eq_getElem hjl
      have HT : Hid (l.take (j + 1) = l.take j ++ [l[j]]) := Lib.hid (List.take_succ_eq_append_getElem hjl)
      have hcc : ∀ k, k < 4 → wr.cell? ⟨b, j * 4 + k, none⟩ = some (.int .i64 ((hold4.enc l[j]).getD k 0)) := fun k hk => (HW.out.only.cell (by exact hb) (.inl (by exact hb))).trans (hc j _ hg k hk)
      generalize l[j] = y at hcc HT
      obtain ⟨y0, y1, y2, y3⟩ := y
      have p0 : wr.cell? ⟨b, j * 4, none⟩ = some (.int .i64 y0) := hcc 0 (by decide)
      have p1 : wr.cell? ⟨b, j * 4 + 1, none⟩ = some (.int .i64 y1) := hcc 1 (by decide)
      have p2 : wr.cell? ⟨b, j * 4 + 2, none⟩ = some (.int .i64 y2) := hcc 2 (by decide)
      have p3 : wr.cell? ⟨b, j * 4 + 3, none⟩ = some (.int .i64 y3) := hcc 3 (by decide)
      clear hc hcc hg
      have HA := Lib.hid (HW.out.kept ((Only.refl wr.heap.size wr.heap.size wr).alloc (.cells #[.int .i64 y0, .int .i64 y1, .int .i64 y2, .int .i64 y3] 71)))
      by_cases hy3 : y3 ≤ now
      · have hd3 : decide (y3 ≤ now) = true := decide_eq_true hy3
        have HX : Hid (WiRel w epoch quiet now place (mp, (m1, m2, m3)) l false (.bool (dnM false place (lasting (l.take j) now))) (.int .i64 ((j : Int) + 1)) (wr.alloc (.cells #[.int .i64 y0, .int .i64 y1, .int .i64 y2, .int .i64 y3] 71))) := Lib.hid ⟨j + 1, _, by go_num, hjl, by rw [lasting_snoc_no HT.out hy3], by rw [lasting_snoc_no HT.out hy3]; exact HA.out⟩
        clear hy3
        go_wp2_with fail
        go_roundw
        case rel => exact HX.out
        case measure => simp [intOf]; omega
      · have hd3 : decide (y3 ≤ now) = false := decide_eq_false hy3
        have HL : Hid (lasting (l.take (j + 1)) now = lasting (l.take j) now ++ [(y0, (y1, y2, y3))]) := Lib.hid (lasting_snoc_yes HT.out hy3)
        by_cases hy0 : y0 = place
        · have he0 : (y0 == place) = true := beq_iff_eq.2 hy0
          have HX : Hid (WiRel w epoch quiet now place (mp, (m1, m2, m3)) l false (.bool (dnM false place (lasting (l.take j) now))) (.int .i64 ((j : Int) + 1)) (wr.alloc (.cells #[.int .i64 y0, .int .i64 y1, .int .i64 y2, .int .i64 y3] 71))) := Lib.hid ⟨j + 1, _, by go_num, hjl, by rw [HL.out, (outM_same false place (m1, m2, m3) _ _ hy0).2], by rw [HL.out, (outM_same false place (m1, m2, m3) _ _ hy0).1]; exact HA.out⟩
          clear hy0 hy3
          go_wp2_with fail
          go_roundw
          case rel => exact HX.out
          case measure => simp [intOf]; omega
        · have he0 : (y0 == place) = false := beq_eq_false_iff_ne.2 hy0
          have HNX := Lib.hid (outM_next false place (m1, m2, m3) (lasting (l.take j) now) (y0, (y1, y2, y3)) hy0)
          have t9 : ∀ o, (wr.alloc o).cell? ⟨w.heap.size + 1 + 1 + 1, 2, none⟩ = some (.slice av an ac) := fun o => (HW.out.kept ((Only.refl wr.heap.size wr.heap.size wr).alloc o)).box.c2
          have f9 : ∀ o, (wr.alloc o).frozen? ⟨w.heap.size + 1 + 1 + 1, 2, none⟩ = false := fun o => (HW.out.kept ((Only.refl wr.heap.size wr.heap.size wr).alloc o)).box.fr 2
          have OW3 := Lib.hid (fun B => (HA.out.kept ((Only.refl _ _ (wr.alloc (.cells #[.int .i64 y0, .int .i64 y1, .int .i64 y2, .int .i64 y3] 71))).alloc B)).own)
          have HA2 := Lib.hid (fun B => HA.out.kept ((Only.refl _ _ (wr.alloc (.cells #[.int .i64 y0, .int .i64 y1, .int .i64 y2, .int .i64 y3] 71))).alloc B))
          have HZB : Hid (∀ A B, w.heap.size + 4 ≤ ((wr.alloc A).alloc B).heap.size) := Lib.hid (fun A B => by simp; omega)
          clear hy0 hy3
          cases hp : dnM false place (lasting (l.take j) now) with
          | true =>
            have HP := Lib.hid hp
            clear hp
            go_wp2_with (first
              | (at_builtin; (refine wpList_append_one hold4 _ rfl (.tmp 53) (.tmp 55) rfl (w.heap.size + 4) _ (outM false place (m1, m2, m3) (lasting (l.take j) now)) (y0, (y1, y2, y3)) rfl (OW3.out _) (wr.heap.size + 1) rfl (rec_cells _ y0 y1 y2 y3 _ (by simp)) (Nat.le_succ_of_le HS.out) (HZB.out _ _) ?_; intro v1 w4 hown' hg'; obtain ⟨rv1a, rv1n, rv1c, rfl⟩ := own_val hown'; have HQ := Lib.hid ((HA2.out _).put hown' hg'); obtain ⟨qv1, fv1⟩ := Wi.mid (HA2.out _) hg'; clear hown' hg'))
              | fail)
            go_roundw
            case rel => exact ⟨j + 1, _, by go_num, hjl, by rw [HL.out, HNX.out.2, HP.out]; rfl, by rw [HL.out, HNX.out.1, if_neg (by rw [HP.out]; simp)]; exact HQ.out.1⟩
            case measure => simp [intOf]; omega
          | false =>
            have HP := Lib.hid hp
            clear hp
            by_cases hlt2 : place < y0
            · have hld : decide (place < y0) = true := decide_eq_true hlt2
              have x0 := HA.out.more.c0
              have x1 := HA.out.more.c1
              have x2 := HA.out.more.c2
              have x3 := HA.out.more.c3
              dsimp only at x0 x1 x2 x3
              have HYB : Hid ((wr.alloc (.cells #[.int .i64 y0, .int .i64 y1, .int .i64 y2, .int .i64 y3] 71)).heap[wr.heap.size]? = some (.cells #[.int .i64 y0, .int .i64 y1, .int .i64 y2, .int .i64 y3] 71)) := Lib.hid (top_at _ _ _ rfl)
              have HTB : Hid (∀ g, (Value.slice av an ac).ownBlock = some g → g < wr.heap.size) := Lib.hid (fun g hg => (HW.out.own.blocks g hg).2)
              go_wp2_with (first
                | (at_builtin; (refine wpList_append_one hold4 _ rfl (.tmp 47) (.tmp 49) rfl (w.heap.size + 4) _ (outM false place (m1, m2, m3) (lasting (l.take j) now)) (mp, (m1, m2, m3)) rfl (OW3.out _) (wr.heap.size + 1) rfl (rec_cells _ mp m1 m2 m3 _ (by simp)) (Nat.le_succ_of_le HS.out) (HZB.out _ _) ?_; intro v1 w4 hown' hg'; obtain ⟨rv1a, rv1n, rv1c, rfl⟩ := own_val hown'; have HQ1 := Lib.hid ((HA2.out _).put hown' hg'); obtain ⟨qv1, fv1⟩ := Wi.mid (HA2.out _) hg'; have oY := (OW3.out _).only hg' HTB.out; have HY := ((HBox.of (top_at wr (.cells #[.int .i64 y0, .int .i64 y1, .int .i64 y2, .int .i64 y3] 71) wr.heap.size rfl)).kept ((Only.refl (wr.heap.size + 1) (wr.heap.size + 1) (wr.alloc (.cells #[.int .i64 y0, .int .i64 y1, .int .i64 y2, .int .i64 y3] 71))).alloc (.cells #[.int .i64 mp, .int .i64 m1, .int .i64 m2, .int .i64 m3] 71)) (by simp) (.inl (Nat.lt_succ_self _))).kept oY (by simp; omega) (.inr (Nat.le_refl _)); obtain ⟨r0, r1, r2, r3⟩ := HY; have HA4 := Lib.hid (fun B => (show Wi w (w4.setCell ⟨w.heap.size + 1 + 1 + 1, 2, none⟩ (.slice rv1a rv1n rv1c)) epoch quiet (mp, (m1, m2, m3)) _ _ from HQ1.out.1).kept ((Only.refl _ _ (w4.setCell ⟨w.heap.size + 1 + 1 + 1, 2, none⟩ (.slice rv1a rv1n rv1c))).alloc B)); have t94 : ∀ o, ((w4.setCell ⟨w.heap.size + 1 + 1 + 1, 2, none⟩ (.slice rv1a rv1n rv1c)).alloc o).cell? ⟨w.heap.size + 1 + 1 + 1, 2, none⟩ = some (.slice rv1a rv1n rv1c) := fun o => (HA4.out o).box.c2; have f94 : ∀ o, ((w4.setCell ⟨w.heap.size + 1 + 1 + 1, 2, none⟩ (.slice rv1a rv1n rv1c)).alloc o).frozen? ⟨w.heap.size + 1 + 1 + 1, 2, none⟩ = false := fun o => (HA4.out o).box.fr 2; have HS4 : Hid ((outM false place (m1, m2, m3) (lasting (l.take j) now) ++ [(mp, (m1, m2, m3))]).length ≤ 100000) := Lib.hid (by have := HS.out; rw [List.length_append]; simp; omega); have HZ4 : Hid (∀ B, w.heap.size + 4 ≤ ((w4.setCell ⟨w.heap.size + 1 + 1 + 1, 2, none⟩ (.slice rv1a rv1n rv1c)).alloc B).heap.size) := Lib.hid (fun B => (HA4.out B).size); clear hown' hg' oY))
                | (at_builtin; (refine wpList_append_one hold4 _ rfl (.tmp 53) (.tmp 55) rfl (w.heap.size + 4) _ (outM false place (m1, m2, m3) (lasting (l.take j) now) ++ [(mp, (m1, m2, m3))]) (y0, (y1, y2, y3)) rfl (HA4.out _).own (w4.heap.size) rfl (rec_cells _ y0 y1 y2 y3 _ (by simp)) HS4.out (HZ4.out _) ?_; intro v2 w5 hown' hg'; obtain ⟨rv2a, rv2n, rv2c, rfl⟩ := own_val hown'; have HQ := Lib.hid ((HA4.out _).put hown' hg'); obtain ⟨qv2, fv2⟩ := Wi.mid (HA4.out _) hg'; clear hown' hg'))
                | fail)
              go_roundw
              case rel => exact ⟨j + 1, _, by go_num, hjl, by rw [HL.out, HNX.out.2, HP.out]; simp [hlt2], by rw [HL.out, HNX.out.1, if_pos ⟨HP.out, hlt2⟩, HME.out]; exact HQ.out.1⟩
              case measure => simp [intOf]; omega
            · have hld : decide (place < y0) = false := decide_eq_false hlt2
              go_wp2_with (first
                | (at_builtin; (refine wpList_append_one hold4 _ rfl (.tmp 53) (.tmp 55) rfl (w.heap.size + 4) _ (outM false place (m1, m2, m3) (lasting (l.take j) now)) (y0, (y1, y2, y3)) rfl (OW3.out _) (wr.heap.size + 1) rfl (rec_cells _ y0 y1 y2 y3 _ (by simp)) (Nat.le_succ_of_le HS.out) (HZB.out _ _) ?_; intro v1 w4 hown' hg'; obtain ⟨rv1a, rv1n, rv1c, rfl⟩ := own_val hown'; have HQ := Lib.hid ((HA2.out _).put hown' hg'); obtain ⟨qv1, fv1⟩ := Wi.mid (HA2.out _) hg'; clear hown' hg'))
                | fail)
              go_roundw
              case rel => exact ⟨j + 1, _, by go_num, hjl, by rw [HL.out, HNX.out.2, HP.out]; simp [hlt2], by rw [HL.out, HNX.out.1, if_neg (fun h => hlt2 h.2)]; exact HQ.out.1⟩
              case measure => simp [intOf]; omega
    · obtain rfl : j = l.length := by omega
      have HTK : Hid (l.take l.length = l) := Lib.hid (List.take_length)
      have HEN := Lib.hid (outM_end false place (m1, m2, m3) (lasting l now))
      have c0 : wr.cell? ⟨w.heap.size + 1 + 1 + 1, 0, none⟩ = some (.int .i64 epoch) := HW.out.box.c0
      have c1 : wr.cell? ⟨w.heap.size + 1 + 1 + 1, 1, none⟩ = some (.int .i64 quiet) := HW.out.box.c1
      have c2 : wr.cell? ⟨w.heap.size + 1 + 1 + 1, 2, none⟩ = some (.slice av an ac) := HW.out.box.c2
      have hsz2 : w.heap.size + 1 + 1 < wr.heap.size := by omega
      cases hp : dnM false place (lasting (l.take l.length) now) with
      | true =>
        have HP := Lib.hid hp
        clear hp
        have r0 : wr.cell? ⟨w.heap.size + 1 + 1, 0, none⟩ = some (.int .i64 0) := HW.out.res.c0
        have r1 : wr.cell? ⟨w.heap.size + 1 + 1, 1, none⟩ = some (.int .i64 0) := HW.out.res.c1
        have r2 : wr.cell? ⟨w.heap.size + 1 + 1, 2, none⟩ = some (.slice none 0 0) := HW.out.res.c2
        have f0 : wr.frozen? ⟨w.heap.size + 1 + 1, 0, none⟩ = false := HW.out.res.fr 0
        have f1 : wr.frozen? ⟨w.heap.size + 1 + 1, 1, none⟩ = false := HW.out.res.fr 1
        have f2 : wr.frozen? ⟨w.heap.size + 1 + 1, 2, none⟩ = false := HW.out.res.fr 2
        have HOUT : Hid (outM false place (m1, m2, m3) (lasting (l.take l.length) now) = mput (lasting l now) place (m1, m2, m3)) := Lib.hid (by have h1 := HP.out; rw [HTK.out] at h1; have h2 := HEN.out; rw [h1, if_neg (by simp)] at h2; rw [HTK.out]; exact h2.trans (by simp))
        go_wp2_with fail
        have hE := wi_end HW.out
        unfold World.xthree at hE
        obtain ⟨⟨k0, k1, k2, _⟩, hB⟩ := hE
        refine bodyPost_ret (v := xval epoch quiet (.slice av an ac)) (by simp [results, Try.results57, go_sem, xval, k0, k1, k2]) rfl ?_
        rw [← HOUT.out]
        exact hB
      | false =>
        have HP := Lib.hid hp
        clear hp
        have x0 : wr.cell? ⟨w.heap.size + 1, 0, none⟩ = some (.int .i64 mp) := HW.out.more.c0
        have x1 : wr.cell? ⟨w.heap.size + 1, 1, none⟩ = some (.int .i64 m1) := HW.out.more.c1
        have x2 : wr.cell? ⟨w.heap.size + 1, 2, none⟩ = some (.int .i64 m2) := HW.out.more.c2
        have x3 : wr.cell? ⟨w.heap.size + 1, 3, none⟩ = some (.int .i64 m3) := HW.out.more.c3
        have OW1 := Lib.hid (fun B => HW.out.kept ((Only.refl _ _ wr).alloc B))
        have HZB : Hid (∀ A, w.heap.size + 4 ≤ (wr.alloc A).heap.size) := Lib.hid (fun A => by simp; omega)
        have HOUT : Hid (outM false place (m1, m2, m3) (lasting (l.take l.length) now) ++ [(mp, (m1, m2, m3))] = mput (lasting l now) place (m1, m2, m3)) := Lib.hid (by have h1 := HP.out; rw [HTK.out] at h1; have h2 := HEN.out; rw [h1, if_pos rfl] at h2; rw [HTK.out, ← HME.out]; exact h2.trans (by simp))
        go_wp2_with (first
          | (at_builtin; (refine wpList_append_one hold4 _ rfl (.tmp 62) (.tmp 64) rfl (w.heap.size + 4) _ (outM false place (m1, m2, m3) (lasting (l.take l.length) now)) (mp, (m1, m2, m3)) rfl (OW1.out _).own (wr.heap.size) rfl (rec_cells _ mp m1 m2 m3 _ (by simp)) (Nat.le_succ_of_le HS.out) (HZB.out _) ?_; intro v1 w4 hown' hg'; obtain ⟨rv1a, rv1n, rv1c, rfl⟩ := own_val hown'; have HQ := Lib.hid ((OW1.out _).put hown' hg'); obtain ⟨qv1, fv1⟩ := Wi.mid (OW1.out _) hg'; have s0 : w4.cell? ⟨w.heap.size + 1 + 1 + 1, 0, none⟩ = some (.int .i64 epoch) := (wi_all (OW1.out _) hg').1.c0; have s1 : w4.cell? ⟨w.heap.size + 1 + 1 + 1, 1, none⟩ = some (.int .i64 quiet) := (wi_all (OW1.out _) hg').1.c1; have r0 : w4.cell? ⟨w.heap.size + 1 + 1, 0, none⟩ = some (.int .i64 0) := (wi_all (OW1.out _) hg').2.c0; have r1 : w4.cell? ⟨w.heap.size + 1 + 1, 1, none⟩ = some (.int .i64 0) := (wi_all (OW1.out _) hg').2.c1; have r2 : w4.cell? ⟨w.heap.size + 1 + 1, 2, none⟩ = some (.slice none 0 0) := (wi_all (OW1.out _) hg').2.c2; have f0 : w4.frozen? ⟨w.heap.size + 1 + 1, 0, none⟩ = false := (wi_all (OW1.out _) hg').2.fr 0; have f1 : w4.frozen? ⟨w.heap.size + 1 + 1, 1, none⟩ = false := (wi_all (OW1.out _) hg').2.fr 1; have f2 : w4.frozen? ⟨w.heap.size + 1 + 1, 2, none⟩ = false := (wi_all (OW1.out _) hg').2.fr 2; clear hown' hg'))
          | fail)
        have hE := wi_end HQ.out.1
        unfold World.xthree at hE
        obtain ⟨⟨k0, k1, k2, _⟩, hB⟩ := hE
        refine bodyPost_ret (v := xval epoch quiet (.slice rv1a rv1n rv1c)) (by simp [results, Try.results57, go_sem, xval, k0, k1, k2]) rfl ?_
        rw [← HOUT.out]
        exact hB

set_option maxRecDepth 100000 in
set_option maxHeartbeats 4000000 in
theorem with_let (w : World) (epoch quiet now place : Int) (v : Value) (l : Trips) (h : ReadS hold4 w v l) (hll : l.length ≤ 10000) (mp m1 m2 m3 : Int) (hm0 : (m3 == 0) = true) :
    Calls Try.prog 57 #[.agg #[.int .i64 epoch, .int .i64 quiet, v], .int .i64 now, .int .i64 place, .agg #[.int .i64 mp, .int .i64 m1, .int .i64 m2, .int .i64 m3]] w (Withed w epoch quiet (mdel (lasting l now) place)) := by
  have hO : Hid (Only w.heap.size w.heap.size w w) := Lib.hid (Only.refl _ _ _)
  obtain ⟨a, cap, rfl, hl1, hl2, h3⟩ := h
  have H3 := Lib.hid h3

  have hb1 := build_rec
  clear h3
  go_enter Try.func57, Try.ntmps57
  go_wp2_with fail
  go_loopw [10, 24] (fun dv jv W => WiRel w epoch quiet now place (mp, (m1, m2, m3)) l true dv jv W) (fun _ jv _ => l.length - (intOf jv).toNat)
  case atStart =>
    refine ⟨0, .slice none 0 0, rfl, Nat.zero_le _, rfl, ?_⟩
    refine ⟨XBox.of (top_at _ _ _ (by simp)), OwnS.nil _ _ _, T4.of ((low_at _ _ _ (by first | (simp; done) | (simp; omega))).trans ((low_at _ _ _ (by simp)).trans (top_at _ _ _ (by simp)))), XBox.of ((low_at _ _ _ (by simp)).trans (top_at _ _ _ (by simp))), (((hO.out.alloc _).alloc _).alloc _).alloc _, by simp⟩
  case round =>
    obtain ⟨j, v, rfl, hj, rfl, hw⟩ := hrel
    obtain ⟨av, an, ac, rfl⟩ := own_val hw.own
    have hsz := hw.size
    have HS : Hid ((outM true place (m1, m2, m3) (lasting (l.take j) now)).length ≤ 99999) := Lib.hid (by have h1 := outM_len true place (m1, m2, m3) (lasting (l.take j) now); have h2 := lasting_len (l.take j) now; have h3 := List.length_take_le j l; omega)
    have HW := Lib.hid hw
    clear hw
    by_cases hjl : j < l.length
    · obtain ⟨b, rfl, hb, hc⟩ : ∃ b, a = some ⟨b, 0, none⟩ ∧ b < w.heap.size ∧ ∀ i x, l[i]? = some x → ∀ k, k < 4 → w.cell? ⟨b, i * 4 + k, none⟩ = some (.int .i64 ((hold4.enc x).getD k 0)) := by
        rcases H3.out with h0 | h0
        · rw [h0] at hjl; simp at hjl
        · exact h0
      have hg : l[j]? = some l[j] := List.getElem?_eq_getElem hjl
      have HT : Hid (l.take (j + 1) = l.take j ++ [l[j]]) := Lib.hid (List.take_succ_eq_append_getElem hjl)
      have hcc : ∀ k, k < 4 → wr.cell? ⟨b, j * 4 + k, none⟩ = some (.int .i64 ((hold4.enc l[j]).getD k 0)) := fun k hk => (HW.out.only.cell (by exact hb) (.inl (by exact hb))).trans (hc j _ hg k hk)
      generalize l[j] = y at hcc HT
      obtain ⟨y0, y1, y2, y3⟩ := y
      have p0 : wr.cell? ⟨b, j * 4, none⟩ = some (.int .i64 y0) := hcc 0 (by decide)
      have p1 : wr.cell? ⟨b, j * 4 + 1, none⟩ = some (.int .i64 y1) := hcc 1 (by decide)
      have p2 : wr.cell? ⟨b, j * 4 + 2, none⟩ = some (.int .i64 y2) := hcc 2 (by decide)
      have p3 : wr.cell? ⟨b, j * 4 + 3, none⟩ = some (.int .i64 y3) := hcc 3 (by decide)
      clear hc hcc hg
      have HA := Lib.hid (HW.out.kept ((Only.refl wr.heap.size wr.heap.size wr).alloc (.cells #[.int .i64 y0, .int .i64 y1, .int .i64 y2, .int .i64 y3] 71)))
      by_cases hy3 : y3 ≤ now
      · have hd3 : decide (y3 ≤ now) = true := decide_eq_true hy3
        have HX : Hid (WiRel w epoch quiet now place (mp, (m1, m2, m3)) l true (.bool (dnM true place (lasting (l.take j) now))) (.int .i64 ((j : Int) + 1)) (wr.alloc (.cells #[.int .i64 y0, .int .i64 y1, .int .i64 y2, .int .i64 y3] 71))) := Lib.hid ⟨j + 1, _, by go_num, hjl, by rw [lasting_snoc_no HT.out hy3], by rw [lasting_snoc_no HT.out hy3]; exact HA.out⟩
        clear hy3
        go_wp2_with fail
        go_roundw
        case rel => exact HX.out
        case measure => simp [intOf]; omega
      · have hd3 : decide (y3 ≤ now) = false := decide_eq_false hy3
        have HL : Hid (lasting (l.take (j + 1)) now = lasting (l.take j) now ++ [(y0, (y1, y2, y3))]) := Lib.hid (lasting_snoc_yes HT.out hy3)
        by_cases hy0 : y0 = place
        · have he0 : (y0 == place) = true := beq_iff_eq.2 hy0
          have HX : Hid (WiRel w epoch quiet now place (mp, (m1, m2, m3)) l true (.bool (dnM true place (lasting (l.take j) now))) (.int .i64 ((j : Int) + 1)) (wr.alloc (.cells #[.int .i64 y0, .int .i64 y1, .int .i64 y2, .int .i64 y3] 71))) := Lib.hid ⟨j + 1, _, by go_num, hjl, by rw [HL.out, (outM_same true place (m1, m2, m3) _ _ hy0).2], by rw [HL.out, (outM_same true place (m1, m2, m3) _ _ hy0).1]; exact HA.out⟩
          clear hy0 hy3
          go_wp2_with fail
          go_roundw
          case rel => exact HX.out
          case measure => simp [intOf]; omega
        · have he0 : (y0 == place) = false := beq_eq_false_iff_ne.2 hy0
          have HNX := Lib.hid (outM_next true place (m1, m2, m3) (lasting (l.take j) now) (y0, (y1, y2, y3)) hy0)
          have t9 : ∀ o, (wr.alloc o).cell? ⟨w.heap.size + 1 + 1 + 1, 2, none⟩ = some (.slice av an ac) := fun o => (HW.out.kept ((Only.refl wr.heap.size wr.heap.size wr).alloc o)).box.c2
          have f9 : ∀ o, (wr.alloc o).frozen? ⟨w.heap.size + 1 + 1 + 1, 2, none⟩ = false := fun o => (HW.out.kept ((Only.refl wr.heap.size wr.heap.size wr).alloc o)).box.fr 2
          have OW3 := Lib.hid (fun B => (HA.out.kept ((Only.refl _ _ (wr.alloc (.cells #[.int .i64 y0, .int .i64 y1, .int .i64 y2, .int .i64 y3] 71))).alloc B)).own)
          have HA2 := Lib.hid (fun B => HA.out.kept ((Only.refl _ _ (wr.alloc (.cells #[.int .i64 y0, .int .i64 y1, .int .i64 y2, .int .i64 y3] 71))).alloc B))
          have HZB : Hid (∀ A B, w.heap.size + 4 ≤ ((wr.alloc A).alloc B).heap.size) := Lib.hid (fun A B => by simp; omega)
          clear hy0 hy3
          cases hp : dnM true place (lasting (l.take j) now) with
          | true =>
            have HP := Lib.hid hp
            clear hp
            go_wp2_with (first
              | (at_builtin; (refine wpList_append_one hold4 _ rfl (.tmp 53) (.tmp 55) rfl (w.heap.size + 4) _ (outM true place (m1, m2, m3) (lasting (l.take j) now)) (y0, (y1, y2, y3)) rfl (OW3.out _) (wr.heap.size + 1) rfl (rec_cells _ y0 y1 y2 y3 _ (by simp)) (Nat.le_succ_of_le HS.out) (HZB.out _ _) ?_; intro v1 w4 hown' hg'; obtain ⟨rv1a, rv1n, rv1c, rfl⟩ := own_val hown'; have HQ := Lib.hid ((HA2.out _).put hown' hg'); obtain ⟨qv1, fv1⟩ := Wi.mid (HA2.out _) hg'; clear hown' hg'))
              | fail)
            go_roundw
            case rel => exact ⟨j + 1, _, by go_num, hjl, by rw [HL.out, HNX.out.2, HP.out]; rfl, by rw [HL.out, HNX.out.1, if_neg (by rw [HP.out]; simp)]; exact HQ.out.1⟩
            case measure => simp [intOf]; omega
          | false => simp [dnM] at hp
    · obtain rfl : j = l.length := by omega
      have HTK : Hid (l.take l.length = l) := Lib.hid (List.take_length)
      have HEN := Lib.hid (outM_end true place (m1, m2, m3) (lasting l now))
      have c0 : wr.cell? ⟨w.heap.size + 1 + 1 + 1, 0, none⟩ = some (.int .i64 epoch) := HW.out.box.c0
      have c1 : wr.cell? ⟨w.heap.size + 1 + 1 + 1, 1, none⟩ = some (.int .i64 quiet) := HW.out.box.c1
      have c2 : wr.cell? ⟨w.heap.size + 1 + 1 + 1, 2, none⟩ = some (.slice av an ac) := HW.out.box.c2
      have hsz2 : w.heap.size + 1 + 1 < wr.heap.size := by omega
      cases hp : dnM true place (lasting (l.take l.length) now) with
      | true =>
        have HP := Lib.hid hp
        clear hp
        have r0 : wr.cell? ⟨w.heap.size + 1 + 1, 0, none⟩ = some (.int .i64 0) := HW.out.res.c0
        have r1 : wr.cell? ⟨w.heap.size + 1 + 1, 1, none⟩ = some (.int .i64 0) := HW.out.res.c1
        have r2 : wr.cell? ⟨w.heap.size + 1 + 1, 2, none⟩ = some (.slice none 0 0) := HW.out.res.c2
        have f0 : wr.frozen? ⟨w.heap.size + 1 + 1, 0, none⟩ = false := HW.out.res.fr 0
        have f1 : wr.frozen? ⟨w.heap.size + 1 + 1, 1, none⟩ = false := HW.out.res.fr 1
        have f2 : wr.frozen? ⟨w.heap.size + 1 + 1, 2, none⟩ = false := HW.out.res.fr 2
        have HOUT : Hid (outM true place (m1, m2, m3) (lasting (l.take l.length) now) = mdel (lasting l now) place) := Lib.hid (by have h1 := HP.out; rw [HTK.out] at h1; have h2 := HEN.out; rw [h1, if_neg (by simp)] at h2; rw [HTK.out]; exact h2.trans (by simp))
        go_wp2_with fail
        have hE := wi_end HW.out
        unfold World.xthree at hE
        obtain ⟨⟨k0, k1, k2, _⟩, hB⟩ := hE
        refine bodyPost_ret (v := xval epoch quiet (.slice av an ac)) (by simp [results, Try.results57, go_sem, xval, k0, k1, k2]) rfl ?_
        rw [← HOUT.out]
        exact hB
      | false => simp [dnM] at hp
end Go.Proofs.Ytefllgpehhlkoaa
