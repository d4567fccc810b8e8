/-
  Delete of one parcel, told of parcels; Take, walked.
-/
import Derived.Test.YtjlfoiocceepjaaNetC
namespace Go.Proofs.Ytjlfoiocceepjaa
open Go.RowKit Go.Proofs.YtjlfoiocceepjaaW.PrintWords Go.Proofs.YtjlfoiocceepjaaW.PrintLast Go.Proofs.YtjlfoiocceepjaaW.PrintMore
set_option linter.unusedVariables false
set_option linter.unusedSimpArgs false

theorem Blk.of_far {w w' : World} {g b : Nat} {t : TypeId} {cs : Array Value} (h : Blk w g t cs) (f : Far b w w') (hn : b ≠ g) : Blk w' g t cs :=
  (f.block g (Ne.symm hn)).trans h
theorem PR.far {W W' : World} {B b : Nat} {v : Value} {l : List Pc} (h : PR W B v l) (f : Far b W W') (hb : b < B) : PR W' B v l := by
  refine ⟨h.1, ?_⟩
  rcases h.2 with h1 | ⟨g, cap, cur, h1, h2, h3, h4⟩
  · exact .inl h1
  · exact .inr ⟨g, cap, cur, h1, h2, (f.block g (by omega)).trans h3, h4⟩
theorem delete_any (W : World) (B i : Nat) (v : Value) (l : List Pc) (h : PR W B v l) (hi : i < l.length) (hl : l.length ≤ 300) :
    Calls Try.prog 32 #[v, .int .i64 (i : Int), .int .i64 ((i : Int) + 1)] W fun e w' => ∃ v', e = .returned v' ∧ PR w' B v' (l.eraseIdx i) ∧ Ef B [67] W w' := by
  obtain ⟨b, c, cur, hv, hB, hb, hsz, hlc, hcm, hcur⟩ := h.blk (by omega)
  subst hv
  obtain ⟨i0, hi0, hzz⟩ := Option.map_eq_some_iff.1 sizePc
  obtain ⟨m, hm⟩ : ∃ m, i + m + 1 = l.length := ⟨l.length - i - 1, by omega⟩
  have hd := pcs_drop l (i + 1)
  have hnl : (pcs (l.drop (i + 1))).length = m * 3 := by rw [pcs_length, List.length_drop]; congr 1; omega
  have hcell : ∀ j u, (pcs (l.drop (i + 1)))[j]? = some u → W.cell? (Addr.add (if c = i + 1 then ⟨b, 0, none⟩ else ⟨b, (i + 1) * 3, none⟩) j) = some u := by
    intro j u hu
    have hj := (List.getElem?_eq_some_iff.1 hu).1
    rw [if_neg (by omega)]
    have e : (⟨b, (i + 1) * 3, none⟩ : Addr).add j = ⟨b, (i + 1) * 3 + j, none⟩ := by unfold Addr.add; split <;> simp_all
    rw [e, hb.cell, ← hu, ← hd, ← hcur, List.getElem?_drop, List.getElem?_take, if_pos (by omega), Array.getElem?_toList]
  refine (delete_in W b i l.length c (c - (i + 1)) m _ cur (pcs (l.drop (i + 1))) i0 ⟨hi0, hzz⟩ hb hsz hi hlc hcm hl hm rfl rfl hnl hcell (pcs_one _)).mono ?_
  rintro e w' ⟨rfl, cur1, h1, h2, h3, h4⟩
  have hle : (l.eraseIdx i).length = i + m := by rw [List.length_eraseIdx, if_pos hi]; omega
  refine ⟨_, rfl, ?_, Ef.far hb (by simp) hB h3⟩
  refine ⟨by rw [pcs_length], .inr ⟨b, c, _, by rw [hle], hB, h4, by omega, by unfold maxLen; omega, ?_, ?_⟩⟩
  · have hs1 : cur1.toList.length = c * 3 := by rw [Array.length_toList]; omega
    have : (pcC ⟨0, ⟨#[]⟩, false⟩).length = 3 := rfl
    simp only [List.size_toArray, List.length_append, List.length_take, List.length_drop, hs1, this]
    omega
  · have hs1 : cur1.toList.length = c * 3 := by rw [Array.length_toList]; omega
    have hs2 : cur.toList.length = c * 3 := by rw [Array.length_toList]; omega
    rw [hle]
    show List.take ((i + m) * 3) (List.take ((i + m) * 3) cur1.toList ++ pcC ⟨0, ⟨#[]⟩, false⟩ ++ List.drop ((i + m) * 3 + 3) cur1.toList) = _
    rw [List.append_assoc, List.take_append_of_le_length (by rw [List.length_take]; omega), List.take_take, Nat.min_self, h2]
    rw [List.take_append_of_le_length (by rw [List.length_append, List.length_take]; omega)]
    rw [List.take_of_length_le (by rw [List.length_append, List.length_take]; omega)]
    have e1 : cur.toList.take (i * 3) = pcs (l.take i) := by
      rw [← pcs_take, ← hcur, List.take_take, Nat.min_eq_left (by omega)]
    rw [e1, ← pcs_append, List.eraseIdx_eq_take_drop_succ]
set_option maxRecDepth 100000 in
set_option maxHeartbeats 4000000 in
theorem take_bad (B : Nat) (W : World) (g : Nat) (l : List Pc) (i : Int) (h : NetI B W g l) (hi : i < 0 ∨ (l.length : Int) ≤ i) :
    Calls Try.prog 20 #[.pointer (some ⟨g, 0, none⟩), .int .i64 i] W fun e w' => e = .returned (.tuple #[.agg zeroP, .int .i64 8]) ∧ Below W.heap.size W w' := by
  obtain ⟨⟨A, c, lost, h1, h2⟩, h3⟩ := h
  have HK : Hid (∀ V, Blk V g 54 #[.slice A l.length c, .int .i64 lost] → PR V B (.slice A l.length c) l → Calls Try.prog 30 #[.pointer (some ⟨g, 0, none⟩), .int .i64 i] V fun e w' => e = .returned (.tuple #[.agg zeroP, .int .i64 8]) ∧ Below V.heap.size V w') := Lib.hid fun V k1 k2 => look_bad B V g l i ⟨⟨A, c, lost, k1, k2⟩, h3⟩ hi
  have HN := Lib.hid h1
  have HR := Lib.hid h2
  have hu67 := Try.underlying67
  clear h1 h2 hi h3
  go_enter Try.func20, Try.ntmps20
  go_wp2_with (first
    | ((with_reducible refine gate_dst (N := 4) rfl ?_); refine box_event rfl (N := 4) rfl (cs := zeroP) (t := 67) ?hr ?_; (case hr => first | (go_simp; done) | (go_simp; rfl)); intro r hr W1 hbox hb; have HLr := Lib.hid (Nat.le_of_eq hr.symm); clear hr; have HX1 := Lib.hid (show Blk W1 r 67 zeroP from hbox); have HB1 := Lib.hid hb; clear hb hbox)
    | (go_at_call 30; (with_reducible refine (HK.out _ (HN.out.out HB1.out) (HR.out.out HB1.out)).mono ?_); rintro e W2 ⟨rfl, hb⟩; have HX2 := Lib.hid (HX1.out.out hb); have HB2 := Lib.hid (HB1.out.trans (hb.mono HB1.out.size)); clear hb)
    | ((with_reducible refine gate_dst (N := 6) rfl ?_); refine box_event rfl (N := 6) rfl (cs := zeroP) (t := 67) ?hr ?_; (case hr => first | (go_simp; done) | (go_simp; rfl)); intro q hq W3 hbox hb; have HLq := Lib.hid (show W.heap.size ≤ q by rw [hq]; exact HB2.out.size); have HQ := Lib.hid (show q ≠ r by rw [hq]; exact Nat.ne_of_gt HX2.out.lt); clear hq; have HY3 := Lib.hid (show Blk W3 q 67 zeroP from hbox); have HX3 := Lib.hid (HX2.out.out hb); have HB3 := Lib.hid (HB2.out.trans (hb.mono HB2.out.size)); clear hb hbox)
    | (refine wpList_store_part _ rfl (.tmp 6) (.tmp 12) 67 rfl q 0 (zeroP) rfl rfl sizePc rfl 67 _ HY3.out (Nat.le_refl _) (zeroP) rfl ?_; intro W4 hb4 hfr; have HY4 := Lib.hid hb4; have HX4 := Lib.hid (HX3.out.of_far hfr HQ.out); have HB4 := Lib.hid (HB3.out.trans (hfr.below HLq.out)); clear hb4 hfr)
    | (refine wpList_load_part _ rfl (.tmp 6) 67 rfl q 0 zeroP rfl aggPc sizePc 67 _ HY4.out ?_ ?_; (intro j v hv; rw [Nat.zero_add]; simpa using hv))
    | (refine wpList_store_part _ rfl (.tmp 4) (.tmp 28) 67 rfl r 0 zeroP rfl rfl sizePc rfl 67 _ HX4.out (Nat.le_refl _) zeroP rfl ?_; intro W5 hb5 hfr; have HX5 := Lib.hid hb5; have HB5 := Lib.hid (HB4.out.trans (hfr.below HLr.out)); clear hb5 hfr)
    | fail)
  exact bodyPost_ret (results_blk2 Try.results20 _ _ r zeroP rfl aggPc sizePc HX5.out) rfl ⟨rfl, HB5.out⟩
set_option maxRecDepth 100000 in
set_option maxHeartbeats 4000000 in
theorem take_ok (B : Nat) (W : World) (g : Nat) (l : List Pc) (i : Nat) (h : NetI B W g l) (hi : i < l.length) (hl : l.length ≤ 300) :
    Calls Try.prog 20 #[.pointer (some ⟨g, 0, none⟩), .int .i64 (i : Int)] W fun e w' => e = .returned (.tuple #[.agg (pcA l[i]), .int .i64 0]) ∧ NetI B w' g (l.eraseIdx i) ∧ Ef B [54, 67] W w' := by
  obtain ⟨⟨A, c, lost, h1, h2⟩, h3⟩ := h
  obtain ⟨p, hp⟩ : ∃ p, p = l[i] := ⟨_, rfl⟩
  rw [← hp]
  have HK : Hid (∀ V, Blk V g 54 #[.slice A l.length c, .int .i64 lost] → PR V B (.slice A l.length c) l → Calls Try.prog 30 #[.pointer (some ⟨g, 0, none⟩), .int .i64 (i : Int)] V fun e w' => e = .returned (.tuple #[.agg (pcA p), .int .i64 0]) ∧ Below V.heap.size V w') := Lib.hid fun V k1 k2 => by rw [hp]; exact look_ok B V g l i ⟨⟨A, c, lost, k1, k2⟩, h3⟩ hi
  have HC : Hid (∀ V, PR V B (.slice A l.length c) l → Calls Try.prog 31 #[.slice A l.length c] V fun e w' => ∃ v', e = .returned v' ∧ PR w' V.heap.size v' l ∧ Below V.heap.size V w') := Lib.hid fun V k => clone_any B V A l.length c l k hl
  have HD : Hid (∀ V B' v, PR V B' v l → Calls Try.prog 32 #[v, .int .i64 (i : Int), .int .i64 ((i : Int) + 1)] V fun e w' => ∃ v', e = .returned v' ∧ PR w' B' v' (l.eraseIdx i) ∧ Ef B' [67] V w') := Lib.hid fun V B' v k => delete_any V B' i v l k hi hl
  have HN := Lib.hid h1
  have HR := Lib.hid h2
  have HBg := Lib.hid (And.intro h3 h1.lt)
  have hu67 := Try.underlying67
  have hi300 : (i : Int) ≤ 300 := by omega
  have hi0 : (0 : Int) ≤ (i : Int) := by omega
  obtain ⟨l', hl'⟩ : ∃ l', l' = l.eraseIdx i := ⟨_, rfl⟩
  rw [← hl'] at HD ⊢
  clear h1 h2 hi h3 hp hl'
  generalize hLn : l.length = L at *
  clear hLn
  go_enter Try.func20, Try.ntmps20
  go_wp2_with (first
    | ((with_reducible refine gate_dst (N := 4) rfl ?_); refine box_event rfl (N := 4) rfl (cs := zeroP) (t := 67) ?hr ?_; (case hr => first | (go_simp; done) | (go_simp; rfl)); intro r hr W1 hbox hb; have HLr := Lib.hid (Nat.le_of_eq hr.symm); clear hr; have HX1 := Lib.hid (show Blk W1 r 67 zeroP from hbox); have HB1 := Lib.hid hb; clear hb hbox)
    | (go_at_call 30; (with_reducible refine (HK.out _ (HN.out.out HB1.out) (HR.out.out HB1.out)).mono ?_); rintro e W2 ⟨rfl, hb⟩; have HX2 := Lib.hid (HX1.out.out hb); have HB2 := Lib.hid (HB1.out.trans (hb.mono HB1.out.size)); clear hb)
    | ((with_reducible refine gate_dst (N := 6) rfl ?_); refine box_event rfl (N := 6) rfl (cs := zeroP) (t := 67) ?hr ?_; (case hr => first | (go_simp; done) | (go_simp; rfl)); intro q hq W3 hbox hb; have HLq := Lib.hid (show W.heap.size ≤ q by rw [hq]; exact HB2.out.size); have HQ := Lib.hid (show q ≠ r by rw [hq]; exact Nat.ne_of_gt HX2.out.lt); clear hq; have HY3 := Lib.hid (show Blk W3 q 67 zeroP from hbox); have HX3 := Lib.hid (HX2.out.out hb); have HB3 := Lib.hid (HB2.out.trans (hb.mono HB2.out.size)); clear hb hbox)
    | (refine wpList_store_part _ rfl (.tmp 6) (.tmp 12) 67 rfl q 0 (pcA p) rfl rfl sizePc rfl 67 _ HY3.out (Nat.le_refl _) (pcA p) rfl ?_; intro W4 hb4 hfr; have HY4 := Lib.hid hb4; have HX4 := Lib.hid (HX3.out.of_far hfr HQ.out); have HB4 := Lib.hid (HB3.out.trans (hfr.below HLq.out)); have c4 : W4.cell? ⟨g, 0, none⟩ = some (.slice A L c) := (HN.out.out HB4.out).cell 0; clear hb4 hfr)
    | (go_at_call 31; (with_reducible refine (HC.out _ (HR.out.out HB4.out)).mono ?_); rintro e W5 ⟨v1, rfl, ho, hb⟩; have HO5 := Lib.hid ho; have HE5 := Lib.hid hb; clear ho hb)
    | (go_at_call 32; (with_reducible refine (HD.out _ _ _ HO5.out).mono ?_); rintro e W6 ⟨v2, rfl, ho, hf⟩; obtain ⟨A', c', hv2, _⟩ := ho.form; subst hv2; have HE6 := Lib.hid (HE5.out.trans (hf.below (Nat.le_refl _) HE5.out.size)); have HO6 := Lib.hid ho; have HB6 := Lib.hid (HB4.out.trans (HE6.out.mono HB4.out.size)); have hN6 := HN.out.out HB6.out; have c6 : W6.cell? ⟨g, 0, none⟩ = some (.slice A L c) := hN6.cell 0; have f6 := hN6.frozen 0; clear ho hf c4 hN6)
    | (refine wpList_load_part _ rfl (.tmp 6) 67 rfl q 0 (pcA p) rfl aggPc sizePc 67 _ ((HY4.out.out HE6.out).far (p := ⟨g, 0, none⟩) (show q ≠ g from Nat.ne_of_gt (Nat.lt_of_lt_of_le HBg.out.2 HLq.out)) _) ?_ ?_; (intro j v hv; rw [Nat.zero_add]; simpa using hv))
    | (refine wpList_store_part _ rfl (.tmp 4) (.tmp 28) 67 rfl r 0 (pcA p) rfl rfl sizePc rfl 67 _ ((HX4.out.out HE6.out).far (p := ⟨g, 0, none⟩) (show r ≠ g from Nat.ne_of_gt (Nat.lt_of_lt_of_le HBg.out.2 HLr.out)) _) (Nat.le_refl _) (pcA p) rfl ?_; intro W7 hb7 hfr; have HX7 := Lib.hid hb7; have HF7 := Lib.hid hfr; clear hb7 hfr)
    | fail)
  have hown := HO6.out
  have hgW := HBg.out.2
  have hgB := HBg.out.1
  have hrW := HLr.out
  have hr4 := HX4.out.lt
  have hN6 := HN.out.out HB6.out
  have hF1 : Far g W6 (W6.setCell ⟨g, 0, none⟩ (.slice A' l'.length c')) := Far.setCell _ ⟨g, 0, none⟩ _
  have hN7 : Blk W7 g 54 #[.slice A' l'.length c', .int .i64 lost] := (hN6.set 0 (.slice A' l'.length c')).of_far HF7.out (by omega)
  have hO7 : PR W7 B (.slice A' l'.length c') l' := ((hown.ef (Ef.far (B := B) (T := [54]) hN6 (by simp) HBg.out.1 hF1) (by simp)).far HF7.out hr4).lower (by have := HB4.out.size; omega)
  have hE : Ef B [54, 67] W W7 := ((Ef.of_below HB6.out).trans (Ef.far hN6 (by simp) HBg.out.1 hF1)).trans (Ef.far (b := r) ((HX4.out.out HE6.out).of_far hF1 (by omega)) (by simp) (by omega) HF7.out)
  exact bodyPost_ret (results_blk2 Try.results20 _ _ r (pcA p) rfl aggPc sizePc HX7.out) rfl ⟨rfl, ⟨⟨A', c', lost, hN7, hO7⟩, HBg.out.1⟩, hE⟩
end Go.Proofs.Ytjlfoiocceepjaa
