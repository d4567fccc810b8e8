/-
  The net's small functions, walked: Look, Len, Clone, Send.
-/
import Derived.Test.YtjlfoiocceepjaaNetA
import Derived.Lib.SliceRun
namespace Go.Proofs.Ytjlfoiocceepjaa
open Go.RowKit Go.Proofs.YtjlfoiocceepjaaW.PrintWords Go.Proofs.YtjlfoiocceepjaaW.PrintLast Go.Proofs.YtjlfoiocceepjaaW.PrintMore
set_option linter.unusedVariables false
set_option linter.unusedSimpArgs false

def zeroP : Array Value := #[.int .i64 0, .string ⟨#[]⟩, .bool false]
def pcA (p : Pc) : Array Value := #[.int .i64 p.dst, .string p.fr, .bool p.tu]
theorem PR.blk {W : World} {B : Nat} {v : Value} {l : List Pc} (h : PR W B v l) (hl : 0 < l.length) : ∃ g c cur, v = .slice (some ⟨g, 0, none⟩) l.length c ∧ B ≤ g ∧ Blk W g 67 cur ∧ cur.size = c * 3 ∧ l.length ≤ c ∧ c ≤ 9223372036854775807 ∧ cur.toList.take (l.length * 3) = pcs l := by
  rcases h.2 with ⟨h1, h2⟩ | ⟨g, cap, cur, h1, h2, h3, h4, h5, h6, h7⟩
  · omega
  · exact ⟨g, cap, cur, h1, h2, h3, h6, h4, by unfold maxLen at h5; exact h5, h7⟩
theorem pcs_at {cur : Array Value} {l : List Pc} (h : cur.toList.take (l.length * 3) = pcs l) (i : Nat) (hi : i < l.length) : ∀ (j : Nat) (v : Value), (pcA l[i]).toList[j]? = some v → cur[i * 3 + j]? = some v := by
  intro j v hv
  have hj : j < 3 := by
    have := (List.getElem?_eq_some_iff.1 hv).1
    simpa [pcA] using this
  have hd := pcs_drop l i
  rw [List.drop_eq_getElem_cons hi] at hd
  have e : pcs (l[i] :: l.drop (i + 1)) = pcC l[i] ++ pcs (l.drop (i + 1)) := rfl
  rw [e, ← h] at hd
  have h2 : (List.drop (i * 3) (List.take (l.length * 3) cur.toList))[j]? = cur[i * 3 + j]? := by
    rw [List.getElem?_drop, List.getElem?_take, if_pos (by omega), Array.getElem?_toList]
  rw [← h2, hd, List.getElem?_append_left (by show j < 3; exact hj)]
  exact hv
set_option maxRecDepth 100000 in
set_option maxHeartbeats 4000000 in
theorem look_bad (B : Nat) (W : World) (g : Nat) (l : List Pc) (i : Int) (h : NetI B W g l) (hi : i < 0 ∨ (l.length : Int) ≤ i) :
    Calls Try.prog 30 #[.pointer (some ⟨g, 0, none⟩), .int .i64 i] W fun e w' => e = .returned (.tuple #[.agg zeroP, .int .i64 8]) ∧ Below W.heap.size W w' := by
  obtain ⟨⟨A, c, lost, h1, h2⟩, h3⟩ := h
  have HN := Lib.hid h1
  have HBe := Lib.hid (Below.refl W.heap.size W)
  have hu67 := Try.underlying67
  clear h1 h2
  rcases (show i < 0 ∨ (¬ i < 0 ∧ (l.length : Int) ≤ i) by omega) with hz | ⟨hz, hz2⟩
  all_goals
    clear hi
    go_enter Try.func30, Try.ntmps30
    go_wp2_with (first
      | ((with_reducible refine gate_dst (N := 4) rfl ?_); refine box_event rfl (N := 4) rfl (cs := zeroP) (t := 67) ?hr ?_; (case hr => first | (go_simp; done) | (go_simp; rfl)); intro r hr W1 hbox hb; have HLr := Lib.hid (Nat.le_of_eq hr.symm); clear hr; have HX := Lib.hid (show Blk W1 r 67 zeroP from hbox); have HB1 := Lib.hid hb; have c0 : W1.cell? ⟨g, 0, none⟩ = some (.slice A l.length c) := (HN.out.out hb).cell 0; clear hb hbox)
      | (refine wpList_store_part _ rfl (.tmp 4) (.tmp 17) 67 rfl r 0 zeroP rfl rfl sizePc rfl 67 _ HX.out (Nat.le_refl _) zeroP rfl ?_; intro W2 hb2 hfr; have HX2 := Lib.hid hb2; have HB2 := Lib.hid (HB1.out.trans (hfr.below HLr.out)); clear hb2 hfr)
      | fail)
    exact bodyPost_ret (results_blk2 Try.results30 _ _ r zeroP rfl aggPc sizePc HX2.out) rfl ⟨rfl, HB2.out⟩
set_option maxRecDepth 100000 in
set_option maxHeartbeats 4000000 in
theorem look_ok (B : Nat) (W : World) (g : Nat) (l : List Pc) (i : Nat) (h : NetI B W g l) (hi : i < l.length) :
    Calls Try.prog 30 #[.pointer (some ⟨g, 0, none⟩), .int .i64 (i : Int)] W fun e w' => e = .returned (.tuple #[.agg (pcA l[i]), .int .i64 0]) ∧ Below W.heap.size W w' := by
  obtain ⟨⟨A, c, lost, h1, h2⟩, h3⟩ := h
  obtain ⟨rb, cap, cur, hv, hrb, hbl, hsz, hlc, hcm, hcur⟩ := h2.blk (by omega)
  injection hv with hA _ hcc
  subst hA hcc
  have hat := pcs_at hcur i hi
  obtain ⟨p, hp⟩ : ∃ p, p = l[i] := ⟨_, rfl⟩
  rw [← hp] at hat ⊢
  have HN := Lib.hid h1
  have HR := Lib.hid hbl
  have HA := Lib.hid hat
  have HBe := Lib.hid (Below.refl W.heap.size W)
  have hu67 := Try.underlying67
  have hiI : (i : Int) < (l.length : Int) := by omega
  have hge : ¬ ((l.length : Int) ≤ (i : Int)) := by omega
  clear h1 h2 hp hat hbl hcur
  generalize l.length = L at *
  go_enter Try.func30, Try.ntmps30
  go_wp2_with (first
    | ((with_reducible refine gate_dst (N := 4) rfl ?_); refine box_event rfl (N := 4) rfl (cs := zeroP) (t := 67) ?hr ?_; (case hr => first | (go_simp; done) | (go_simp; rfl)); intro r hr W1 hbox hb; have HLr := Lib.hid (Nat.le_of_eq hr.symm); clear hr; have HX := Lib.hid (show Blk W1 r 67 zeroP from hbox); have HB1 := Lib.hid hb; have HR1 := Lib.hid (HR.out.out hb); have c0 : W1.cell? ⟨g, 0, none⟩ = some (.slice (some ⟨rb, 0, none⟩) L c) := (HN.out.out hb).cell 0; clear hb hbox)
    | (refine wpList_load_part _ rfl (.tmp 23) 67 rfl rb (i * 3) (pcA p) (by simp [Act.eval]) aggPc sizePc 67 _ HR1.out HA.out ?_)
    | (refine wpList_store_part _ rfl (.tmp 4) (.tmp 24) 67 rfl r 0 (pcA p) rfl rfl sizePc rfl 67 _ HX.out (Nat.le_refl _) (pcA p) rfl ?_; intro W2 hb2 hfr; have HX2 := Lib.hid hb2; have HB2 := Lib.hid (HB1.out.trans (hfr.below HLr.out)); clear hb2 hfr)
    | fail)
  exact bodyPost_ret (results_blk2 Try.results30 _ _ r (pcA p) rfl aggPc sizePc HX2.out) rfl ⟨rfl, HB2.out⟩
theorem len_any (B : Nat) (W : World) (g : Nat) (l : List Pc) (h : NetI B W g l) :
    Calls Try.prog 23 #[.pointer (some ⟨g, 0, none⟩)] W fun e w' => e = .returned (.int .i64 (l.length : Int)) ∧ Below W.heap.size W w' := by
  obtain ⟨⟨A, c, lost, h1, h2⟩, h3⟩ := h
  have c0 : W.cell? ⟨g, 0, none⟩ = some (.slice A l.length c) := h1.cell 0
  clear h1 h2
  go_enter Try.func23, Try.ntmps23
  go_wp2_with fail
  go_ret
  exact ⟨rfl, Below.refl _ _⟩
theorem PR.isNil {W : World} {B n c : Nat} {l : List Pc} (h : PR W B (.slice none n c) l) : l = [] := by
  rcases h.2 with ⟨h1, h2⟩ | ⟨g, cap, cur, h1, _⟩
  · exact List.length_eq_zero_iff.1 h2
  · cases h1
theorem PR.cells {W : World} {B : Nat} {ad : Addr} {n c : Nat} {l : List Pc} (h : PR W B (.slice (some ad) n c) l) : ∃ g, ad = ⟨g, 0, none⟩ ∧ n = l.length ∧ ∀ j u, (pcs l)[j]? = some u → W.cell? ((⟨g, 0, none⟩ : Addr).add j) = some u := by
  rcases h.2 with ⟨h1, h2⟩ | ⟨g, cap, cur, h1, _⟩
  · cases h1
  · injection h1 with h2 h3 h4
    injection h2 with h2
    subst h2
    exact ⟨g, rfl, h3, World.ownsRow.cells h rfl⟩
set_option maxRecDepth 100000 in
set_option maxHeartbeats 4000000 in
theorem clone_any (B : Nat) (W : World) (A : Option Addr) (n c : Nat) (l : List Pc) (h : PR W B (.slice A n c) l) (hl : l.length ≤ 300) :
    Calls Try.prog 31 #[.slice A n c] W fun e w' => ∃ v', e = .returned v' ∧ PR w' W.heap.size v' l ∧ Below W.heap.size W w' := by
  have q52 : ∀ (w : World) (a : Option Addr) (n c n' c' : Nat), (binOp .eql 52 (.slice a n c) (.slice none n' c')).run Try.prog w = .ok (.bool a.isNone) w := fun w a n c n' c' => Lib.run_eql_slice_nil w _ _ a n c n' c' Try.underlying52
  rcases A with _ | ad
  · have hl0 := h.isNil
    subst hl0
    clear h
    go_enter Try.func31, Try.ntmps31
    go_wp2_with fail
    go_ret
    exact ⟨_, rfl, PR.nil _ _, Below.refl _ _⟩
  · obtain ⟨g, rfl, rfl, hc⟩ := h.cells
    obtain ⟨i0, hi, hzz⟩ := Option.map_eq_some_iff.1 infoPc
    simp only [Prod.mk.injEq] at hzz
    obtain ⟨hz0, hz1, hz2⟩ := hzz
    have HC := Lib.hid hc
    have HI := Lib.hid (And.intro hi (And.intro hz0 (And.intro hz1 hz2)))
    have HL := Lib.hid (pcs_length l)
    have H1 := Lib.hid (pcs_one l)
    clear h hc hi hz0 hz1 hz2
    have hb0 : ∀ w : World, (Instr.buildSlice 52 0 #[]).run Try.prog w = .ok (.slice (some ⟨w.heap.size, 0, none⟩) 0 0) (w.alloc (.cells #[] 67)) := fun w => by kernel_rfl
    go_enter Try.func31, Try.ntmps31
    go_wp2_with (at_builtin; refine wpList_append_own _ rfl _ _ 52 rfl W.heap.size 67 i0 _ 3 32 Try.underlying52 HI.out.1 HI.out.2.1 HI.out.2.2.1 HI.out.2.2.2 rfl (by omega) _ _ _ rfl (World.ownsRow_made W #[] 0 (Nat.le_refl _) (Nat.zero_le _) (by simp)) ⟨g, 0, none⟩ l.length c (pcs l) rfl HL.out (fun j u hj => Lib.cell?_alloc_some _ (HC.out j u hj)) H1.out ?q4 ?q5 ?q6 ?_; (case q4 => unfold maxLen; omega); (case q5 => omega); (case q6 => simp); intro v' w1 hown hgrow _)
    go_ret
    refine ⟨v', rfl, ?_, ((Below.refl _ W).alloc (Nat.le_refl _) _).grown hgrow (by simp) (by intro k hk; have e : W.heap.size = k := Option.some.inj hk; omega)⟩
    unfold PR
    simpa using hown
set_option maxRecDepth 100000 in
set_option maxHeartbeats 4000000 in
theorem send_ok (B : Nat) (W : World) (g : Nat) (l : List Pc) (s : ByteArray) (h : NetI B W g l) (hl : l.length < 256) (hs : s.size ≤ 65536) :
    Calls Try.prog 15 #[.pointer (some ⟨g, 0, none⟩), .int .i64 1, .string s] W fun e w' => e = .returned (.int .i64 0) ∧ NetI B w' g (l ++ [⟨1, s, false⟩]) ∧ Ef B [54, 67] W w' := by
  obtain ⟨⟨A, c, lost, h1, h2⟩, h3⟩ := h
  have c0 : W.cell? ⟨g, 0, none⟩ = some (.slice A l.length c) := h1.cell 0
  obtain ⟨i0, hi, hzz⟩ := Option.map_eq_some_iff.1 infoPc
  simp only [Prod.mk.injEq] at hzz
  obtain ⟨hz0, hz1, hz2⟩ := hzz
  have HI := Lib.hid (And.intro hi (And.intro hz0 (And.intro hz1 hz2)))
  have HN := Lib.hid h1
  have HR := Lib.hid h2
  have HB := Lib.hid (And.intro h3 h1.lt)
  have hu67 := Try.underlying67
  have hlI : ¬ (256 : Int) ≤ (l.length : Int) := by omega
  have hsI : ¬ (65536 : Int) < (s.size : Int) := by omega
  have HL := Lib.hid (show (l ++ [(⟨1, s, false⟩ : Pc)]).length = l.length + 1 by simp)
  clear h1 h2 h3 hi hz0 hz1 hz2
  go_enter Try.func15, Try.ntmps15
  go_wp2_with (at_builtin; refine wpList_append_own _ rfl _ _ 52 rfl B 67 i0 _ 3 32 Try.underlying52 HI.out.1 HI.out.2.1 HI.out.2.2.1 HI.out.2.2.2 rfl (by omega) _ l.length (pcs l) rfl (World.ownsRow.alloc HR.out _) ⟨W.heap.size, 0, none⟩ 1 1 (pcC ⟨1, s, false⟩) rfl rfl ?q2 ?q3 ?q4 ?q5 ?q6 ?_; (case q2 => intro j u hj; have := (Blk.new W 67 #[.int .i64 1, .string s, .bool false] _ rfl).cell j; rw [add_plain, this]; simpa [pcC] using hj); (case q3 => intro u hu; simp [pcC] at hu; rcases hu with rfl | rfl | rfl <;> rfl); (case q4 => unfold maxLen; omega); (case q5 => omega); (case q6 => simp; have := HB.out; omega); intro v1 w1 hown hgrow _; have HP : Hid (PR w1 B v1 (l ++ [⟨1, s, false⟩])) := Lib.hid (by unfold PR; rw [HL.out, pcs_append]; exact hown); have HE : Hid (Ef B [54, 67] W w1) := Lib.hid ((Ef.of_below ((Below.refl _ W).alloc (Nat.le_refl _) _)).trans (Ef.grown (World.ownsRow.alloc HR.out _) (by simp) hgrow)); have hE67 : Ef B [67] W w1 := (Ef.of_below ((Below.refl _ W).alloc (Nat.le_refl _) _)).trans (Ef.grown (World.ownsRow.alloc HR.out _) (by simp) hgrow); have hg1 := HN.out.ef hE67 (by simp); have HG1 := Lib.hid hg1; have c1 : w1.cell? ⟨g, 0, none⟩ = some (.slice A l.length c) := hg1.cell 0; have f1 := hg1.frozen 0; obtain ⟨A1, cc1, hv1, _⟩ := HP.out.form; subst hv1; rw [HL.out] at HP ⊢; clear hown hgrow hE67 hg1 c0)
  go_ret
  refine ⟨rfl, ⟨⟨A1, cc1, lost, ?_, ?_⟩, HB.out.1⟩, HE.out.trans (Ef.far HG1.out (by simp) HB.out.1 (Far.setCell _ ⟨g, 0, none⟩ _))⟩
  · rw [HL.out]; exact HG1.out.set 0 _
  · rw [HL.out]; exact HP.out.ef (Ef.far (T := [54]) HG1.out (by simp) HB.out.1 (Far.setCell _ ⟨g, 0, none⟩ _)) (by simp)
end Go.Proofs.Ytjlfoiocceepjaa
