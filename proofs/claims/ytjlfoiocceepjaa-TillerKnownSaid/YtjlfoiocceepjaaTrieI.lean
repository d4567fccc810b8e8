/-
  TillerKnown, walked.
-/
import Derived.Test.YtjlfoiocceepjaaTrieH
namespace Go.Proofs.Ytjlfoiocceepjaa.Trie
open Go.RowKit Go.Proofs.YtjlfoiocceepjaaW.PrintWords Go.Proofs.YtjlfoiocceepjaaW.PrintLast Go.Proofs.YtjlfoiocceepjaaW.PrintMore
set_option linter.unusedVariables false
set_option linter.unusedSimpArgs false

/-- the frame of a text -/
def fr60 (s : ByteArray) : ByteArray := str (packL (s.data.toList.take 60))
theorem fr60_size (s : ByteArray) : (fr60 s).size ≤ 70 := by
  unfold fr60
  rw [str_size, packL_length, List.length_take]
  omega
theorem TI.grown {B : Nat} {W W' : World} {t : Nat} {D : List (List Int)} {L : Lay} {cnt : Int} {K : Nat} (h : TI B W t D L cnt K) {b : Nat} {v : Value} {xs : List ByteArray} (ho : KS.R 9 W b All v xs) (hg : W.grownBy W' v.ownBlock) : TI B W' t D L cnt K := by
  obtain ⟨inner, ho⟩ := Kd.R_own ho
  have hk : ∀ {q : Nat} {o : Obj}, W.heap[q]? = some o → (∀ cs mk, o ≠ .cells cs 9 mk) → W'.heap[q]? = some o := fun {q o} hq hn => by
    rw [hg.block q (Array.getElem?_eq_some_iff.1 hq).1 (fun e => ?_), hq]
    rcases ho.2 with ⟨h1, _⟩ | ⟨g, cap, cur, h1, _, h3, _⟩
    · rw [h1] at e; simp [Value.ownBlock] at e
    · rw [h1] at e
      simp only [Value.ownBlock, Option.some.injEq] at e
      subst e
      rw [h3] at hq
      exact hn _ _ (Option.some.inj hq).symm
  refine ⟨h.nil, h.closed, h.rt, hk h.root (fun cs mk e => by injection e with _ e; exact absurd e (by decide)), fun p hp hn => hk (h.node p hp hn) (fun cs mk e => by injection e with _ e; exact absurd e (by decide)), fun p hp => (h.map p hp).eq fun b hb => ?_, h.kids, h.adinj, h.mpinj, h.few, h.lo⟩
  have hm := h.map p hp
  rw [hb] at hm
  obtain ⟨xs, clock, hx⟩ := MapAt.map hm
  rw [hx]
  exact hk hx (fun cs mk e => by cases e)
structure Kn (w W : World) (t : Nat) (fv : Value) (S : List ByteArray) (m : Nat) : Prop where
  trie : TK w.heap.size W t m
  fr : KS.R 9 W w.heap.size All fv S
  bel : Below w.heap.size w W
theorem Kn.out {w W W' : World} {t i : Nat} {fv : Value} {S : List ByteArray} (h : Kn w W t fv S i) (hb : Below W.heap.size W W') : Kn w W' t fv S i :=
  ⟨h.trie.out hb, KS_out h.fr hb, h.bel.trans (hb.mono h.bel.size)⟩
theorem Kn.put {w W W' : World} {t i j : Nat} {fv : Value} {S : List ByteArray} (h : Kn w W t fv S i) (ht : TK w.heap.size W' t j) (hE : Ef w.heap.size [29, 31] W W') : Kn w W' t fv S j :=
  ⟨ht, KS_ef h.fr hE (by simp), h.bel.trans (hE.below (Nat.le_refl _) h.bel.size)⟩
theorem Kn.append {w W W' : World} {t i : Nat} {fv v1 : Value} {S S' : List ByteArray} (h : Kn w W t fv S i) (ho : KS.R 9 W' w.heap.size All v1 S') (hb : Below w.heap.size w W') (hg : W.grownBy W' fv.ownBlock) : Kn w W' t v1 S' i := by
  obtain ⟨D, L, c, h1, h2⟩ := h.trie
  exact ⟨⟨D, L, c, h1.grown h.fr hg, h2⟩, ho, hb⟩
theorem sum_nine : csum [49, 50, 51, 52, 53, 54, 55, 56, 57] = 3421780262#32 := by kernel_rfl
/-- the texts, as a function -/
theorem texts_fn {w : World} {a : Option Addr} {N : Nat} (h : IsTexts w a N) : ∃ tx : Nat → ByteArray, N = 0 ∨ ∃ b o, a = some ⟨b, o, none⟩ ∧ b < w.heap.size ∧ ∀ i, i < N → w.cell? ⟨b, o + i, none⟩ = some (.string (tx i)) := by
  rcases h with h | ⟨b, o, h1, h2, h3⟩
  · exact ⟨fun _ => ⟨#[]⟩, .inl h⟩
  · refine ⟨fun i => if hi : i < N then Classical.choose (h3 i hi) else ⟨#[]⟩, .inr ⟨b, o, h1, h2, fun i hi => ?_⟩⟩
    show w.cell? _ = some (.string (if hi : i < N then Classical.choose (h3 i hi) else ⟨#[]⟩))
    rw [dif_pos hi]
    exact Classical.choose_spec (h3 i hi)
theorem xor_none (y : UInt8) : bits BinOp.xor IntKind.u8 (y.toNat : Int) 0 = (y.toNat : Int) := by
  have h := u8_xor_nat y.toNat 0 y.toNat_lt (by omega)
  rw [Nat.xor_zero] at h
  exact h
/-- turned bits are told -/
theorem turned_told (a : List UInt8) (k b : Nat) (hk : k + 32 ≤ 8 * (packL a).length) (h0 : b ≠ 0) (hb : b < 4294967296) : (unpackL (bst (packL a) k b (8 * (packL a).length) 32).1).2.1 ≠ 0 := by
  intro h
  have h1 := bst_facts (packL a) k b _ rfl 32
  obtain ⟨j, hj⟩ := h1.2.2 (bst_turned _ k b _ hk 32 (Nat.le_refl _) (some_bit b h0 hb))
  exact hj (burst_told a _ k (bst_length _ _ _ _ _) h1.1 h j)
set_option maxRecDepth 100000 in
set_option maxHeartbeats 16000000 in
theorem known_any (a0 a1 a2 : Option Addr) (N M c0 c1 c2 : Nat) (asked : List Int) (at_ : Int) (bits_ : Nat) (w : World) (h0 : IsRows w a0 N) (h1 : IsTexts w a1 M) (hN : N ≤ 9223372036854775807) (hM : M ≤ 9223372036854775807)
    (h2 : KI.C w a2 asked.length asked) (hc2 : asked.length ≤ c2) (hcm2 : c2 ≤ 9223372036854775807) (hw2 : ∀ x ∈ asked, (Lit.int .i64 x).wf = true) (hb : bits_ < 4294967296) :
    Calls Try.prog 3 #[.slice a0 N c0, .slice a1 M c1, .slice a2 asked.length c2, .int .i64 at_, .int .u32 (bits_ : Int)] w fun e w' => e = .returned (.bool true) ∧ Below w.heap.size w w' := by
  have htf := texts_fn h1
  clear h1
  obtain ⟨tx, h1⟩ := htf
  have HR := Lib.hid h0
  have HT := Lib.hid h1
  have HSum : Hid (∀ V, Calls Try.prog 5 #[.string ⟨#[49, 50, 51, 52, 53, 54, 55, 56, 57]⟩] V fun e w' => e = .returned (.int .u32 3421780262) ∧ V = w') := Lib.hid fun V => by
    have := sum_any ⟨#[49, 50, 51, 52, 53, 54, 55, 56, 57]⟩ V (by decide)
    rw [show (⟨#[49, 50, 51, 52, 53, 54, 55, 56, 57]⟩ : ByteArray).data.toList = [49, 50, 51, 52, 53, 54, 55, 56, 57] from rfl, sum_nine] at this
    exact this
  have HFa : Hid (∀ V, Below w.heap.size w V → Calls Try.prog 9 #[.slice a2 asked.length c2, .int .i64 140] V fun e w' => ∃ v : Value, e = .returned v ∧ KI.R 3 w' V.heap.size All v (asked.take 140) ∧ Below V.heap.size V w') := Lib.hid fun V hV => few_any a2 c2 asked 140 (by decide) V (Kd.C_below h2 hV) hc2 hcm2
  have HB0 : ∀ w : World, (Instr.buildSlice 23 0 #[]).run Try.prog w = .ok (.slice (some ⟨w.heap.size, 0, none⟩) 0 0) (w.alloc (.cells #[] 9)) := fun w => by kernel_rfl
  have HBe := Lib.hid (Below.refl w.heap.size w)
  have HW2 : Hid (∀ x ∈ asked.take 140, (Lit.int .i64 x).wf = true) := Lib.hid fun x hx => hw2 x (List.mem_of_mem_take hx)
  have HL2 : Hid ((asked.take 140).length ≤ 140) := Lib.hid (by rw [List.length_take]; omega)
  generalize asked.take 140 = ask at *
  clear h0 h1 h2 hw2
  go_enter Try.func3, Try.ntmps3
  go_wp2_with (first
    | (go_at_call 5; (with_reducible refine (HSum.out _).mono ?_); rintro e W1 ⟨rfl, rfl⟩)
    | ((with_reducible refine gate_dst (N := 11) rfl ?_); refine box_event rfl (N := 11) rfl (cs := #[.map none, .bool false, .int .i64 0, .int .i64 0]) (t := 31) ?hr ?_; (case hr => first | (go_simp; done) | (go_simp; rfl)); intro t ht W2 hbox hb2; have HGw := Lib.hid (show w.heap.size ≤ t by rw [ht]; exact Nat.le_refl _); have HTr := Lib.hid (TK.zero (B := w.heap.size) (show Blk W2 t 31 _ from hbox) HGw.out); have HB2 := Lib.hid hb2; clear ht hb2 hbox)
    | fail)
  have HK0 : Hid (Kn w (W2.alloc (.cells #[] 9)) t (.slice (some ⟨W2.heap.size, 0, none⟩) 0 0) [] 0) := Lib.hid (by
    have hb := (Below.refl _ W2).alloc (Nat.le_refl _) (.cells #[] 9)
    exact ⟨HTr.out.out hb, Kd.R_lower (KS_empty W2) HB2.out.size, HB2.out.trans (hb.mono HB2.out.size)⟩)
  clear HTr HB2 HBe HSum
  generalize W2.alloc (.cells #[] 9) = w5 at *
  generalize W2.heap.size = sb at *
  go_loopw [12, 13] (fun fv iv wr => ∃ (i : Nat) (S : List ByteArray), i ≤ 20 ∧ iv = .int .i64 (i : Int) ∧ i ≤ M ∧ Hid (Kn w wr t fv S i ∧ S.length = i ∧ ∀ j (hj : j < S.length), S[j] = fr60 (tx j))) (fun _ iv _ => 20 - (intOf iv).toNat)
  case atStart => exact ⟨0, [], by omega, rfl, by omega, Lib.hid ⟨HK0.out, rfl, fun j hj => by cases hj⟩⟩
  case round =>
    clear HK0
    obtain ⟨i, S, hi, rfl, hiM, H⟩ := hrel
    by_cases hlt : i < N ∧ i < M ∧ i < 20
    · obtain ⟨h1, h2, h3⟩ := hlt
      obtain ⟨b0, o0, ha0, hb0, hcell0⟩ := HR.out.resolve_left (by omega)
      subst ha0
      obtain ⟨b1, o1, ha1, hb1, hcell1⟩ := HT.out.resolve_left (by omega)
      subst ha1
      obtain ⟨A, c, ts, hc, hcl, hcm, hK, hwf⟩ := hcell0 i h1
      have hcT := hcell1 i h2
      obtain ⟨s, hs⟩ : ∃ s, s = tx i := ⟨_, rfl⟩
      rw [← hs] at hcT
      have HCR : Hid (∀ V, Below w.heap.size w V → V.cell? ⟨b0, o0 + i, none⟩ = some (.slice A ts.length c)) := Lib.hid fun V hV => (hV.cell hb0).trans hc
      have HCT : Hid (∀ V, Below w.heap.size w V → V.cell? ⟨b1, o1 + i, none⟩ = some (.string s)) := Lib.hid fun V hV => (hV.cell hb1).trans hcT
      have HFew : Hid (∀ V, Below w.heap.size w V → Calls Try.prog 9 #[.slice A ts.length c, .int .i64 140] V fun e w' => ∃ v : Value, e = .returned v ∧ KI.R 3 w' V.heap.size All v (ts.take 140) ∧ Below V.heap.size V w') := Lib.hid fun V hV => few_any A c ts 140 (by decide) V (Kd.C_below hK hV) hcl hcm
      have HFs := Lib.hid hs
      obtain ⟨U, hU⟩ : ∃ U, U = str (s.data.toList.take 60) := ⟨_, rfl⟩
      obtain ⟨F, hF⟩ : ∃ F, F = fr60 s := ⟨_, rfl⟩
      have HCut : Hid (∀ V, Calls Try.prog 7 #[.string s, .int .i64 60] V fun e w' => e = .returned (.string U) ∧ Below V.heap.size V w') := Lib.hid fun V => by rw [hU]; exact cut_any s 60 (by decide) V
      have HPk : Hid (∀ V, Calls Try.prog 6 #[.string U] V fun e w' => e = .returned (.tuple #[.string F, .nilIface]) ∧ Below V.heap.size V w') := Lib.hid fun V => by rw [hU, hF]; exact pack_any _ V (by rw [List.length_take]; omega)
      have HF := Lib.hid hF
      have hwf2 : ∀ x ∈ ts.take 140, (Lit.int .i64 x).wf = true := fun x hx => hwf x (List.mem_of_mem_take hx)
      have h140 : (ts.take 140).length ≤ 140 ∧ ((ts.take 140).length = 0 ↔ ts.length = 0) ∧ (128 < (ts.take 140).length → 1 ≤ ts.length) := by rw [List.length_take]; omega
      have HI : Hid (i < 20) := Lib.hid h3
      have htm : ts.length ≤ 9223372036854775807 := by omega
      clear hc hcell0 hcell1 hcT hU hF hwf hcl hcm hK hs hb0 hb1
      generalize ts.take 140 = ts2 at *
      obtain ⟨t1, t2, t3⟩ := h140
      suffices hsuf : ∀ (gg : Int), Hid (∀ V A' c', TK w.heap.size V t i → w.heap.size ≤ V.heap.size → ∀ B', KI.R 3 V B' All (.slice A' ts2.length c') ts2 → Calls Try.prog 8 #[.pointer (some ⟨t, 0, none⟩), .slice A' ts2.length c', .int .i64 (i : Int)] V fun e w' => (∃ b, e = .returned (.tuple #[.bool b, .int .i64 gg])) ∧ TK w.heap.size w' t (i + 1) ∧ Ef w.heap.size [29, 31] V w') →
          ((1 : Int) ≤ (ts.length : Int) ∧ (ts2.length : Int) ≤ 128 ∧ gg = 0) ∨ (¬ (1 : Int) ≤ (ts.length : Int) ∧ gg = 8) ∨ ((1 : Int) ≤ (ts.length : Int) ∧ ¬ (ts2.length : Int) ≤ 128 ∧ gg = 2) → _ by
        by_cases hz : ts2.length = 0
        · exact hsuf 8 (Lib.hid fun V A' c' hk hB B' hr => put_bad hk A' c' _ ts2 8 rfl (.inl ⟨hz, rfl⟩)) (.inr (.inl ⟨by omega, rfl⟩))
        · by_cases hbig : 128 < ts2.length
          · exact hsuf 2 (Lib.hid fun V A' c' hk hB B' hr => put_bad hk A' c' _ ts2 2 rfl (.inr ⟨hbig, t1, rfl⟩)) (.inr (.inr ⟨by omega, by omega, rfl⟩))
          · exact hsuf 0 (Lib.hid fun V A' c' hk hB B' hr => put_good hk hB (by omega) A' c' B' _ ts2 hr rfl hwf2 (by omega) (by omega)) (.inl ⟨by omega, by omega, rfl⟩)
      intro gg HPut hgg
      have hiN : (i : Int) < (N : Int) := by omega
      have hiM2 : (i : Int) < (M : Int) := by omega
      have hi20 : (i : Int) < 20 := by omega
      have x0 := HCT.out _ H.out.1.bel
      clear hwf2 t2 t3
      rcases hgg with ⟨g1, g2, rfl⟩ | ⟨g1, rfl⟩ | ⟨g1, g2, rfl⟩
      all_goals
        go_wp2_with (first
          | (go_at_call 7; (with_reducible refine (HCut.out _).mono ?_); rintro e W3 ⟨rfl, hb⟩; have H3 := Lib.hid (H.out.1.out hb); clear hb)
          | (go_at_call 6; (with_reducible refine (HPk.out _).mono ?_); rintro e W4 ⟨rfl, hb⟩; have H4 := Lib.hid (H3.out.out hb); have x4 := HCR.out _ H4.out.bel; clear hb)
          | (go_at_call 9; (with_reducible refine (HFew.out _ H6.out.bel).mono ?_); rintro e W7 ⟨v7, rfl, ho, hb⟩; obtain ⟨A7, c7, hv7⟩ := Kd.R_slice ho; subst hv7; have H7 := Lib.hid (H6.out.out hb); clear hb ho x6)
          | (go_at_call 9; (with_reducible refine (HFew.out _ H4.out.bel).mono ?_); rintro e W5 ⟨v5, rfl, ho, hb⟩; obtain ⟨A5, c5, hv5⟩ := Kd.R_slice ho; subst hv5; have HO5 := Lib.hid ho; have H5 := Lib.hid (H4.out.out hb); clear hb ho x4)
          | (go_at_call 8; (with_reducible refine (HPut.out _ _ _ H5.out.trie H5.out.bel.size _ HO5.out).mono ?_); rintro e W6 ⟨⟨bb, rfl⟩, htk, hE⟩; have H6 := Lib.hid (H5.out.put htk hE); have x6 := HCR.out _ H6.out.bel; clear htk hE)
          | (at_builtin; refine Kd.R_append KS (w0 := w) w.heap.size rfl (.tmp 88) (.tmp 90) 23 9 (.string ⟨#[]⟩) 16 rfl Try.underlying23 infoStr rfl (by decide) (by omega) _ S F [.string F] All (fun _ => False) rfl rfl rfl (fun _ h => h.elim) (fun _ _ => trivial) H7.out.fr H7.out.bel H7.out.bel.size (by have := H.out.2.1; omega) ?_; intro v1 w1 ho hbe hg _; have H8 := Lib.hid (H7.out.append ho hbe hg); clear ho hbe hg)
          | (at_builtin; refine Kd.R_append KS (w0 := w) w.heap.size rfl (.tmp 88) (.tmp 90) 23 9 (.string ⟨#[]⟩) 16 rfl Try.underlying23 infoStr rfl (by decide) (by omega) _ S F [.string F] All (fun _ => False) rfl rfl rfl (fun _ h => h.elim) (fun _ _ => trivial) H6.out.fr H6.out.bel H6.out.bel.size (by have := H.out.2.1; omega) ?_; intro v1 w1 ho hbe hg _; have H8 := Lib.hid (H6.out.append ho hbe hg); clear ho hbe hg)
          | fail)
        go_roundw
        case rel =>
          refine ⟨i + 1, S ++ [F], by omega, by go_num, by omega, Lib.hid ⟨H8.out, by rw [List.length_append, H.out.2.1]; rfl, fun j hj => ?_⟩⟩
          by_cases hjS : j < S.length
          · rw [List.getElem_append_left hjS]
            exact H.out.2.2 j hjS
          · have : j = S.length := by simp at hj; omega
            subst this
            rw [List.getElem_append_right (Nat.le_refl _)]
            simp only [Nat.sub_self, List.getElem_cons_zero]
            rw [HF.out, HFs.out, H.out.2.1]
        case measure => simp [intOf]; omega
    · have hend : ¬ ((i : Int) < (N : Int)) ∨ ((i : Int) < (N : Int) ∧ ¬ (i : Int) < (M : Int)) ∨ ((i : Int) < (N : Int) ∧ (i : Int) < (M : Int) ∧ ¬ (i : Int) < 20) := by omega
      obtain ⟨AS, cS, hfv, hat⟩ := KS_at H.out.1.fr
      subst hfv
      have HAt := Lib.hid hat
      clear hat hlt
      rcases hend with hend | ⟨hend, hend2⟩ | ⟨hend, hend2, hend3⟩
      all_goals
        go_upto_region 14 with (first
          | (go_at_call 9; (with_reducible refine (HFa.out _ H.out.1.bel).mono ?_); rintro e W3 ⟨v3, rfl, ho, hb⟩; obtain ⟨A3, c3, hv3⟩ := Kd.R_slice ho; subst hv3; have HO3 := Lib.hid ho; have HB3 := Lib.hid hb; have H3 := Lib.hid (H.out.1.out hb); clear hb ho)
          | fail)
        have hl3 : ask.length ≤ c3 := (KI_C HO3.out).2.1
        have hc3 := KI_cap HO3.out
        rcases longest_tk H3.out.trie A3 c3 _ ask rfl (KI_C HO3.out).2.2 HW2.out (by have := HL2.out; omega) with hL | ⟨k, j, hk0, hkl, hji, hL, hG⟩
        · have HL := Lib.hid hL
          clear hL
          go_wp2_with (first
            | (go_at_call 10; (with_reducible refine (HL.out).mono ?_); rintro e W4 ⟨rfl, hb⟩; have HB4 := Lib.hid (H3.out.bel.trans (hb.mono H3.out.bel.size)); clear hb)
            | fail)
          go_ret
          exact ⟨rfl, HB4.out⟩
        · have HL := Lib.hid hL
          have HG := Lib.hid hG
          clear hL hG
          have hkI : ((k : Int) == 0) = false := beq_eq_false_iff_ne.2 (by omega)
          have hj0 : ¬ (j : Int) < 0 := by omega
          have hSl := H.out.2.1
          have hjS : ¬ ((S.length : Int) ≤ (j : Int)) := by omega
          have hkl2 : ¬ ((ask.length : Int) < (k : Int)) := by omega
          obtain ⟨b1, o1, ha1, hb1, hcell1⟩ := HT.out.resolve_left (by omega)
          subst ha1
          obtain ⟨ad, hA, hcf⟩ := HAt.out j (by omega)
          subst hA
          have hcT := hcell1 j (by omega)
          have hfr := H.out.2.2 j (by omega)
          obtain ⟨s, hs⟩ : ∃ s, s = tx j := ⟨_, rfl⟩
          rw [← hs] at hcT hfr
          obtain ⟨u, hu⟩ : ∃ u, u = s.data.toList.take 60 := ⟨_, rfl⟩
          have hu60 : u.length ≤ 60 := by rw [hu, List.length_take]; omega
          obtain ⟨U, hU⟩ : ∃ U, U = str u := ⟨_, rfl⟩
          obtain ⟨F, hF⟩ : ∃ F, F = str (packL u) := ⟨_, rfl⟩
          have hSF : S[j]'(by omega) = F := by rw [hfr, hF, hu]; rfl
          rw [hSF] at hcf
          have HCT : Hid (∀ V, Below w.heap.size w V → V.cell? ⟨b1, o1 + j, none⟩ = some (.string s)) := Lib.hid fun V hV => (hV.cell hb1).trans hcT
          have HCF : Hid (∀ V, Below wr.heap.size wr V → V.cell? (ad.add j) = some (.string F)) := Lib.hid fun V hV => (hV.cell (World.block_lt_of_cell? wr _ hcf)).trans hcf
          have HCut : Hid (∀ V, Calls Try.prog 7 #[.string s, .int .i64 60] V fun e w' => e = .returned (.string U) ∧ Below V.heap.size V w') := Lib.hid fun V => by rw [hU, hu]; exact cut_any s 60 (by decide) V
          have HUn : Hid (∀ V, Calls Try.prog 12 #[.string F] V fun e w' => e = .returned (.tuple #[.string U, .nilIface]) ∧ Below V.heap.size V w') := Lib.hid fun V => by
            have h := unpack_any (packL u) V (by rw [packL_length]; omega)
            rw [unpack_pack u (by omega), ← hF] at h
            rw [hU]
            exact h
          have hFl : F.size = u.length + 10 := by rw [hF, str_size, packL_length]
          have hF70 : F.size ≤ 70 := by omega
          have HFd := Lib.hid hF
          have HU60 := Lib.hid hu60
          have hjM : (j : Int) < (M : Int) := by omega
          have HFl := Lib.hid hFl
          clear hu hU hF hFl hSF hcf hcT hfr hs hcell1 hb1 hu60
          rcases (show at_ < 0 ∨ (¬ at_ < 0 ∧ 8 * (F.size : Int) - 31 ≤ at_) ∨ (¬ at_ < 0 ∧ ¬ 8 * (F.size : Int) - 31 ≤ at_ ∧ bits_ = 0) ∨ (¬ at_ < 0 ∧ ¬ 8 * (F.size : Int) - 31 ≤ at_ ∧ bits_ ≠ 0) by omega) with q1 | ⟨q1, q2⟩ | ⟨q1, q2, rfl⟩ | ⟨q1, q2, q3⟩
          rotate_right
          · obtain ⟨m0, rfl⟩ := Int.eq_ofNat_of_zero_le (a := at_) (by omega)
            have hm8 : m0 + 32 ≤ 8 * F.size := by omega
            have HM8 := Lib.hid hm8
            obtain ⟨bl, hbl⟩ : ∃ bl, bl = F.data.toList := ⟨_, rfl⟩
            have hlen : bl.length = F.size := by rw [hbl]; simp
            have HLen := Lib.hid hlen
            obtain ⟨Lb, hLb⟩ : ∃ Lb, Lb = 8 * bl.length := ⟨_, rfl⟩
            have hpl : bl = packL u := by rw [hbl, HFd.out, str_list]
            obtain ⟨Q, hQ⟩ : ∃ Q, Q = str (bst bl m0 bits_ Lb 32).1 := ⟨_, rfl⟩
            have hql : (bst bl m0 bits_ Lb 32).1.length = bl.length := bst_length _ _ _ _ _
            have HEr : Hid (∃ X place why, why ≠ 0 ∧ ∀ V, Calls Try.prog 12 #[.string Q] V fun e w' => e = .returned (.tuple #[.string X, .iface 77 (.agg #[.int .i64 place, .int .i64 why])]) ∧ Below V.heap.size V w') := Lib.hid (by
              have ht : (unpackL (bst bl m0 bits_ Lb 32).1).2.1 ≠ 0 := by
                rw [hLb, hpl]
                exact turned_told u m0 bits_ (by rw [← hpl, hlen]; exact hm8) q3 hb
              refine ⟨str (unpackL (bst bl m0 bits_ Lb 32).1).1, (unpackL (bst bl m0 bits_ Lb 32).1).2.2, (unpackL (bst bl m0 bits_ Lb 32).1).2.1, ht, fun V => ?_⟩
              have h := unpack_any (bst bl m0 bits_ Lb 32).1 V (by rw [hql, hlen]; omega)
              rw [← hQ] at h
              unfold errV at h
              rw [if_neg ht] at h
              exact h)
            obtain ⟨mk, hmk⟩ : ∃ mk : World → World, mk = fun W => W.drew.alloc (.cells (bytesRow F (grownCap W F.size 0 5)) 5 ((bytesRow F (grownCap W F.size 0 5)).size, (bytesRow F (grownCap W F.size 0 5)).size + 1)) := ⟨_, rfl⟩
            obtain ⟨cp, hcp⟩ : ∃ cp : World → Nat, cp = fun W => grownCap W F.size 0 5 := ⟨_, rfl⟩
            have hcv : ∀ W, (convert 9 45 (.string F)).run Try.prog W = .ok (.slice (some ⟨W.heap.size, 0, none⟩) F.size (cp W)) (mk W) := fun W => by
              rw [hmk, hcp]; exact run_bytes_of_string W 9 45 5 F Try.underlying9 Try.underlying45 Try.underlying5
            have HZ : Hid (∀ W, Zrow (mk W) W.heap.size bl ∧ Below W.heap.size W (mk W)) := Lib.hid (fun W => by
              rw [hmk, hbl]
              exact ⟨Zrow.made W F _, (Below.refl W.heap.size W).drew.alloc (Nat.le_refl _) _⟩)
            have HQ := Lib.hid hQ
            have HQl := Lib.hid hql
            have HLb := Lib.hid hLb
            have hb0 : ((bits_ : Int) == 0) = false := beq_eq_false_iff_ne.2 (by omega)
            clear hmk hcp hQ hql hpl hbl hlen hLb hm8 q3
            go_wp2_with (first
              | (go_at_call 10; (with_reducible refine (HL.out).mono ?_); rintro e W4 ⟨rfl, hb⟩; have HX4 := Lib.hid (HB3.out.trans (hb.mono HB3.out.size)); have HY4 := Lib.hid hb; have x4 := HCF.out _ HX4.out; clear hb)
              | (go_at_call 11; (with_reducible refine (HG.out _ _ HY4.out).mono ?_); rintro e W5 ⟨rfl, rfl⟩)
              | (go_at_call 12; (with_reducible refine (HUn.out _).mono ?_); rintro e W6 ⟨rfl, hb⟩; have HX6 := Lib.hid (HX4.out.trans (hb.mono HX4.out.size)); have x6 := HCF.out _ HX6.out; have t6 := HCT.out _ (H.out.1.bel.trans (HX6.out.mono H.out.1.bel.size)); clear hb x4)
              | (go_at_call 7; (with_reducible refine (HCut.out _).mono ?_); rintro e W7 ⟨rfl, hb⟩; have HX7 := Lib.hid (HX6.out.trans (hb.mono HX6.out.size)); have x7 := HCF.out _ HX7.out; clear hb x6 t6)
              | fail)
            have HW5 : Hid (Zrow (mk W7) W7.heap.size bl ∧ w.heap.size ≤ W7.heap.size ∧ Below w.heap.size w (mk W7)) :=
              Lib.hid ⟨(HZ.out W7).1, Nat.le_trans H.out.1.bel.size HX7.out.size, (H.out.1.bel.trans (HX7.out.mono H.out.1.bel.size)).trans ((HZ.out W7).2.mono (Nat.le_trans H.out.1.bel.size HX7.out.size))⟩
            clear HZ hcv x7 HX7 HX6 HX4 HY4 HL HG HCF HCT H3 HO3 HB3 H HAt
            generalize mk W7 = w8 at *
            generalize cp W7 = qc at *
            generalize W7.heap.size = gz at *
            go_loopw [25] (fun iv wr => ∃ j : Nat, j ≤ 32 ∧ iv = .int .i64 (j : Int) ∧ Hid (Zrow wr gz (bst bl m0 bits_ Lb j).1 ∧ w.heap.size ≤ gz ∧ Below w.heap.size w wr)) (fun iv _ => 32 - (intOf iv).toNat)
            case atStart => exact ⟨0, by omega, rfl, HW5⟩
            case round =>
              clear HW5
              obtain ⟨j, hj, rfl, H⟩ := hrel
              by_cases hlt : j < 32
              · have hsh : ((bits_ : Int) / 2 ^ j).tmod 2 = if bits_.testBit j = true then 1 else 0 := by
                  have h := odd_int2 (bits_ : Int) bits_ j rfl
                  have h2 : (((bits_ : Int) / 2 ^ j).tmod 2 = 0) ∨ (((bits_ : Int) / 2 ^ j).tmod 2 = 1) := by
                    rw [show ((bits_ : Int) / 2 ^ j) = ((bits_ / 2 ^ j : Nat) : Int) by rw [Int.natCast_ediv, Int.natCast_pow]; rfl, Int.tmod_eq_emod_of_nonneg (Int.natCast_nonneg _)]
                    omega
                  rcases h2 with h2 | h2
                  · rw [h2] at h ⊢
                    rw [← h]; rfl
                  · rw [h2] at h ⊢
                    rw [← h]; rfl
                obtain ⟨m, hm0⟩ : ∃ m, m = m0 + j := ⟨_, rfl⟩
                have hm : (m0 : Int) + (j : Int) = (m : Int) := by omega
                have HS : Hid (bst bl m0 bits_ Lb (j + 1) = if bits_.testBit j = true ∧ m < Lb then (fl (bst bl m0 bits_ Lb j).1 m, true) else bst bl m0 bits_ Lb j) := Lib.hid (by rw [hm0]; rfl)
                have HBL := Lib.hid (bst_length bl m0 bits_ Lb j)
                have hmk : m0 + j = m := hm0.symm
                have hmF : m < 8 * F.size := by have := HM8.out; omega
                have HmL : Hid (m < Lb) := Lib.hid (by rw [HLb.out, HLen.out]; exact hmF)
                clear hm0
                obtain ⟨a, ha0⟩ : ∃ a, a = m / 8 := ⟨_, rfl⟩
                obtain ⟨e, he0⟩ : ∃ e, e = m % 8 := ⟨_, rfl⟩
                have ha : (m : Int) / 8 = (a : Int) := by omega
                have he : (m : Int) % 8 = (e : Int) := by omega
                have he8 : e < 8 := by omega
                have hax : (a : Int) < (F.size : Int) := by omega
                have hal : a < (bst bl m0 bits_ Lb j).1.length := by rw [HBL.out, HLen.out]; omega
                have hcell := H.out.1.cell a hal
                have hfr := H.out.1.free a hal
                obtain ⟨y, hy⟩ : ∃ y, y = (bst bl m0 bits_ Lb j).1.getD a 0 := ⟨_, rfl⟩
                rw [← hy] at hcell
                have HY := Lib.hid hy
                have HA := Lib.hid (And.intro ha0 he0)
                have HAl := Lib.hid hal
                clear hy ha0 he0 hal hmF
                cases hbit : bits_.testBit j with
                | true =>
                  rw [hbit] at hsh HS
                  rw [if_pos rfl] at hsh
                  go_wp2_with fail
                  go_region
                  go_wp2_with fail
                  have HF : Hid (fl (bst bl m0 bits_ Lb j).1 m = (bst bl m0 bits_ Lb j).1.set a (y ^^^ bit8 e)) := Lib.hid (by unfold fl; rw [← HA.out.1, ← HA.out.2, ← HY.out])
                  go_roundw
                  case rel =>
                    refine ⟨j + 1, by omega, by go_num, Lib.hid ?_⟩
                    rw [HS.out, if_pos ⟨trivial, HmL.out⟩, HF.out, xor_byte]
                    exact ⟨H.out.1.put a HAl.out _, H.out.2.1, (H.out.2.2.setCell H.out.2.1 _).drew⟩
                  case measure => simp [intOf]; omega
                | false =>
                  rw [hbit] at hsh HS
                  rw [if_neg (by decide)] at hsh
                  have hx0 := xor_none y
                  go_wp2_with fail
                  go_region
                  go_wp2_with fail
                  have HF : Hid ((bst bl m0 bits_ Lb j).1 = (bst bl m0 bits_ Lb j).1.set a y) := Lib.hid (by rw [HY.out, List.getD_eq_getElem?_getD, List.getElem?_eq_getElem HAl.out]; simp)
                  go_roundw
                  case rel =>
                    refine ⟨j + 1, by omega, by go_num, Lib.hid ?_⟩
                    rw [HS.out, if_neg (fun h => by cases h.1), HF.out]
                    exact ⟨H.out.1.put a HAl.out _, H.out.2.1, (H.out.2.2.setCell H.out.2.1 _).drew⟩
                  case measure => simp [intOf]; omega
              · obtain rfl : j = 32 := by omega
                have HT := H.out.1.text qc F.size (by rw [HQl.out, HLen.out])
                rw [← HQ.out] at HT
                obtain ⟨X, place, why, _, hE⟩ := HEr.out
                have HE := Lib.hid hE
                have HBb := Lib.hid H.out.2.2
                clear hE H HQ HQl HEr
                go_wp2_with (first
                  | (go_at_call 12; (with_reducible refine (HE.out _).mono ?_); rintro e W9 ⟨rfl, hb⟩; have HB9 := Lib.hid (HBb.out.trans (hb.mono HBb.out.size)); clear hb)
                  | fail)
                go_ret
                exact ⟨rfl, HB9.out⟩
          all_goals
            go_wp2_with (first
              | (go_at_call 10; (with_reducible refine (HL.out).mono ?_); rintro e W4 ⟨rfl, hb⟩; have HX4 := Lib.hid (HB3.out.trans (hb.mono HB3.out.size)); have HY4 := Lib.hid hb; have x4 := HCF.out _ HX4.out; clear hb)
              | (go_at_call 11; (with_reducible refine (HG.out _ _ HY4.out).mono ?_); rintro e W5 ⟨rfl, rfl⟩)
              | (go_at_call 12; (with_reducible refine (HUn.out _).mono ?_); rintro e W6 ⟨rfl, hb⟩; have HX6 := Lib.hid (HX4.out.trans (hb.mono HX4.out.size)); have x6 := HCF.out _ HX6.out; have t6 := HCT.out _ (H.out.1.bel.trans (HX6.out.mono H.out.1.bel.size)); clear hb x4)
              | (go_at_call 7; (with_reducible refine ((fun (_ : Hid (Below wr.heap.size wr W7)) => HCut.out _) HX7).mono ?_); rintro e W8 ⟨rfl, hb⟩; have HX8 := Lib.hid (HX7.out.trans (hb.mono HX7.out.size)); clear hb x7 t7)
              | (go_at_call 7; (with_reducible refine (HCut.out _).mono ?_); rintro e W7 ⟨rfl, hb⟩; have HX7 := Lib.hid (HX6.out.trans (hb.mono HX6.out.size)); have x7 := HCF.out _ HX7.out; have t7 := HCT.out _ (H.out.1.bel.trans (HX7.out.mono H.out.1.bel.size)); clear hb x6 t6)
              | fail)
            go_ret
            exact ⟨rfl, H.out.1.bel.trans (HX8.out.mono H.out.1.bel.size)⟩
end Go.Proofs.Ytjlfoiocceepjaa.Trie
