/-
  Turn, walked.
-/
import Derived.Test.YtjlfoiocceepjaaNetE
import Derived.Test.YtjlfoiocceepjaaBurstP
namespace Go.Proofs.Ytjlfoiocceepjaa
open Go.RowKit Go.Proofs.YtjlfoiocceepjaaW.PrintWords Go.Proofs.YtjlfoiocceepjaaW.PrintLast Go.Proofs.YtjlfoiocceepjaaW.PrintMore
set_option linter.unusedVariables false
set_option linter.unusedSimpArgs false

theorem pcs_set (cur : List Value) (l : List Pc) (i : Nat) (x : Pc) (hi : i < l.length) (h : cur.take (l.length * 3) = pcs l) (hc : l.length * 3 ≤ cur.length) :
    List.take (l.length * 3) (cur.take (i * 3) ++ pcC x ++ cur.drop (i * 3 + 3)) = pcs (l.set i x) := by
  have hx : (pcC x).length = 3 := rfl
  have e1 : cur.take (i * 3) = pcs (l.take i) := by rw [← pcs_take, ← h, List.take_take, Nat.min_eq_left (by omega)]
  have e2 : List.take ((l.length - (i + 1)) * 3) (cur.drop (i * 3 + 3)) = pcs (l.drop (i + 1)) := by
    rw [← pcs_drop, ← h, List.drop_take]
    congr 1
    · omega
    · congr 1; omega
  have hl1 : (cur.take (i * 3) ++ pcC x).length = i * 3 + 3 := by rw [List.length_append, List.length_take, hx]; omega
  rw [List.take_append, List.take_of_length_le (by omega), hl1, show l.length * 3 - (i * 3 + 3) = (l.length - (i + 1)) * 3 by omega, e1, e2]
  rw [List.set_eq_take_append_cons_drop, if_pos hi, pcs_append, List.append_assoc]
  rfl
theorem and_one (b j : Nat) (hb : b < 4294967296) : bits BinOp.and IntKind.u32 ((b : Int) / 2 ^ j) 1 = if b.testBit j = true then 1 else 0 := by
  have h1 : ((b : Int) / 2 ^ j) = ((b / 2 ^ j : Nat) : Int) := by rw [Int.natCast_ediv, Int.natCast_pow]; rfl
  have h2 : b / 2 ^ j < 4294967296 := Nat.lt_of_le_of_lt (Nat.div_le_self _ _) hb
  rw [h1, show bits BinOp.and IntKind.u32 ((b / 2 ^ j : Nat) : Int) 1 = _ from u32_and_nat (b / 2 ^ j) 1 h2 (by omega), Nat.and_one_is_mod, Nat.testBit_eq_decide_div_mod_eq]
  by_cases h : b / 2 ^ j % 2 = 1
  · simp [h]
  · have : b / 2 ^ j % 2 = 0 := by omega
    simp [this]
set_option maxRecDepth 100000 in
set_option maxHeartbeats 4000000 in
theorem turn_bad (B : Nat) (W : World) (g : Nat) (l : List Pc) (i at_ : Int) (b : Int) (h : NetI B W g l) (hi : i < 0 ∨ (l.length : Int) ≤ i) :
    Calls Try.prog 19 #[.pointer (some ⟨g, 0, none⟩), .int .i64 i, .int .i64 at_, .int .u32 b] W fun e w' => e = .returned (.int .i64 8) ∧ Below W.heap.size W w' := by
  have HK := Lib.hid (look_bad B W g l i h hi)
  have hu67 := Try.underlying67
  clear hi h
  go_enter Try.func19, Try.ntmps19
  go_wp2_with (first
    | (go_at_call 30; (with_reducible refine (HK.out).mono ?_); rintro e W1 ⟨rfl, hb⟩; have HB1 := Lib.hid hb; clear hb)
    | ((with_reducible refine gate_dst (N := 9) rfl ?_); refine box_event rfl (N := 9) rfl (cs := zeroP) (t := 67) ?hr ?_; (case hr => first | (go_simp; done) | (go_simp; rfl)); intro q hq W2 hbox hb; have HLq := Lib.hid (show W.heap.size ≤ q by rw [hq]; exact HB1.out.size); clear hq; have HY2 := Lib.hid (show Blk W2 q 67 zeroP from hbox); have HB2 := Lib.hid (HB1.out.trans (hb.mono HB1.out.size)); clear hb hbox)
    | (refine wpList_store_part _ rfl (.tmp 9) (.tmp 18) 67 rfl q 0 (zeroP) rfl rfl sizePc rfl 67 _ HY2.out (Nat.le_refl _) (zeroP) rfl ?_; intro W3 hb4 hfr; have HY3 := Lib.hid hb4; have HB3 := Lib.hid (HB2.out.trans (hfr.below HLq.out)); clear hb4 hfr)
    | fail)
  go_ret
  exact ⟨rfl, HB3.out⟩
set_option maxRecDepth 100000 in
set_option maxHeartbeats 4000000 in
theorem turn_no (B : Nat) (W : World) (g : Nat) (l : List Pc) (i : Nat) (at_ : Int) (b : Int) (h : NetI B W g l) (hi : i < l.length) (hs : l[i].fr.size ≤ 65536) (hno : at_ < 0 ∨ (¬ at_ < 0 ∧ 8 * (l[i].fr.size : Int) ≤ at_) ∨ (¬ at_ < 0 ∧ ¬ 8 * (l[i].fr.size : Int) ≤ at_ ∧ l[i].tu = true)) :
    Calls Try.prog 19 #[.pointer (some ⟨g, 0, none⟩), .int .i64 (i : Int), .int .i64 at_, .int .u32 b] W fun e w' => (∃ v, e = .returned v) ∧ Below W.heap.size W w' := by
  have HK := Lib.hid (look_ok B W g l i h hi)
  have hu67 := Try.underlying67
  obtain ⟨p, hp⟩ : ∃ p, p = l[i] := ⟨_, rfl⟩
  rw [← hp] at HK hno hs
  clear hi h hp
  rcases hno with hno | ⟨h1, h2⟩ | ⟨h1, h2, h3⟩
  all_goals
    go_enter Try.func19, Try.ntmps19
    go_wp2_with (first
      | (go_at_call 30; (with_reducible refine (HK.out).mono ?_); rintro e W1 ⟨rfl, hb⟩; have HB1 := Lib.hid hb; clear hb)
      | ((with_reducible refine gate_dst (N := 9) rfl ?_); refine box_event rfl (N := 9) rfl (cs := zeroP) (t := 67) ?hr ?_; (case hr => first | (go_simp; done) | (go_simp; rfl)); intro q hq W2 hbox hb; have HLq := Lib.hid (show W.heap.size ≤ q by rw [hq]; exact HB1.out.size); clear hq; have HY2 := Lib.hid (show Blk W2 q 67 zeroP from hbox); have HB2 := Lib.hid (HB1.out.trans (hb.mono HB1.out.size)); clear hb hbox)
      | (refine wpList_store_part _ rfl (.tmp 9) (.tmp 18) 67 rfl q 0 (pcA p) rfl rfl sizePc rfl 67 _ HY2.out (Nat.le_refl _) (pcA p) rfl ?_; intro W3 hb4 hfr; have HY3 := Lib.hid hb4; have HB3 := Lib.hid (HB2.out.trans (hfr.below HLq.out)); have e0 : W3.cell? ⟨q, 0, none⟩ = some (.int .i64 p.dst) := hb4.cell 0; have e1 : W3.cell? ⟨q, 1, none⟩ = some (.string p.fr) := hb4.cell 1; have e2 : W3.cell? ⟨q, 2, none⟩ = some (.bool p.tu) := hb4.cell 2; clear hb4 hfr)
      | fail)
    go_ret
    exact ⟨⟨_, rfl⟩, HB3.out⟩
set_option maxRecDepth 100000 in
set_option maxHeartbeats 8000000 in
theorem turn_ok (B : Nat) (W : World) (g : Nat) (l : List Pc) (i k b Lb : Nat) (X : ByteArray) (h : NetI B W g l) (hi : i < l.length) (hl : l.length ≤ 300) (hX : l[i].fr = X) (hs : X.size ≤ 65536) (hLb : Lb = 8 * X.size) (hk : k < Lb) (hb : b < 4294967296) (htu : l[i].tu = false) :
    Calls Try.prog 19 #[.pointer (some ⟨g, 0, none⟩), .int .i64 (i : Int), .int .i64 (k : Int), .int .u32 (b : Int)] W fun e w' => (∃ v, e = .returned v) ∧ NetI B w' g (l.set i ⟨l[i].dst, str (bst X.data.toList k b Lb 32).1, true⟩) ∧ Ef B [54, 67] W w' := by
  have HK := Lib.hid (look_ok B W g l i h hi)
  have hu67 := Try.underlying67
  obtain ⟨⟨A, c, lost, h1, h2⟩, h3⟩ := h
  have HN := Lib.hid h1
  have HR := Lib.hid h2
  have HBg := Lib.hid (And.intro h3 h1.lt)
  have HC : Hid (∀ V, PR V B (.slice A l.length c) l → Calls Try.prog 31 #[.slice A l.length c] V fun e w' => ∃ v', e = .returned v' ∧ PR w' V.heap.size v' l ∧ Below V.heap.size V w') := Lib.hid fun V k => clone_any B V A l.length c l k hl
  have HPS := Lib.hid (fun (cur : List Value) (x : Pc) => pcs_set cur l i x hi)
  obtain ⟨p, hp⟩ : ∃ p, p = l[i] := ⟨_, rfl⟩
  rw [← hp] at HK htu hX ⊢
  obtain ⟨bl, hbl⟩ : ∃ bl, bl = X.data.toList := ⟨_, rfl⟩
  rw [← hbl]
  have hlen : bl.length = X.size := by rw [hbl]; simp
  have HLen := Lib.hid hlen
  have HL := Lib.hid hLb
  have hkk : ¬ ((k : Int) < 0) := by omega
  have hk2 : ¬ (8 * (X.size : Int) ≤ (k : Int)) := by omega
  have hkL : k < Lb := hk
  have hLl : Lb ≤ 524288 := by omega
  have hk3 : ¬ (Lb ≤ k) := by omega
  have hk4 : ¬ ((Lb : Int) ≤ (k : Int)) := by omega
  have hLI : 8 * (X.size : Int) = (Lb : Int) := by omega
  obtain ⟨mk, hmk⟩ : ∃ mk : World → World, mk = fun W => W.drew.alloc (.cells (bytesRow X (grownCap W X.size 0 5)) 5 ((bytesRow X (grownCap W X.size 0 5)).size, (bytesRow X (grownCap W X.size 0 5)).size + 1)) := ⟨_, rfl⟩
  obtain ⟨cp, hcp⟩ : ∃ cp : World → Nat, cp = fun W => grownCap W X.size 0 5 := ⟨_, rfl⟩
  have hcv : ∀ W, (convert 9 45 (.string X)).run Try.prog W = .ok (.slice (some ⟨W.heap.size, 0, none⟩) X.size (cp W)) (mk W) := fun W => by
    rw [hmk, hcp]; exact run_bytes_of_string W 9 45 5 X Try.underlying9 Try.underlying45 Try.underlying5
  have HZ : Hid (∀ W, Zrow (mk W) W.heap.size bl ∧ Below W.heap.size W (mk W)) := Lib.hid (fun W => by
    rw [hmk, hbl]
    exact ⟨Zrow.made W X _, (Below.refl W.heap.size W).drew.alloc (Nat.le_refl _) _⟩)
  have HLl := Lib.hid hi
  have hi300 : (i : Int) ≤ 300 := by omega
  have hiI : (i : Int) < (l.length : Int) := by omega
  have hl300 := Lib.hid hl
  obtain ⟨Q, hQd⟩ : ∃ Q, Q = str (bst bl k b Lb 32).1 := ⟨_, rfl⟩
  rw [← hQd]
  have HQd := Lib.hid hQd
  clear h1 h2 h3 hmk hcp hbl hp hi hlen hLb hk hl hQd
  generalize hLn : l.length = L at *
  have HLn := Lib.hid hLn
  clear hLn
  go_enter Try.func19, Try.ntmps19
  go_wp2_with (first
    | (go_at_call 30; (with_reducible refine (HK.out).mono ?_); rintro e W1 ⟨rfl, hb⟩; have HB1 := Lib.hid hb; clear hb)
    | ((with_reducible refine gate_dst (N := 9) rfl ?_); refine box_event rfl (N := 9) rfl (cs := zeroP) (t := 67) ?hr ?_; (case hr => first | (go_simp; done) | (go_simp; rfl)); intro q hq W2 hbox hb; have HLq := Lib.hid (show W.heap.size ≤ q by rw [hq]; exact HB1.out.size); clear hq; have HY2 := Lib.hid (show Blk W2 q 67 zeroP from hbox); have HB2 := Lib.hid (HB1.out.trans (hb.mono HB1.out.size)); clear hb hbox)
    | (refine wpList_store_part _ rfl (.tmp 9) (.tmp 18) 67 rfl q 0 (pcA p) rfl rfl sizePc rfl 67 _ HY2.out (Nat.le_refl _) (pcA p) rfl ?_; intro W3 hb4 hfr; have HY3 := Lib.hid hb4; have HB3 := Lib.hid (HB2.out.trans (hfr.below HLq.out)); have e0 : W3.cell? ⟨q, 0, none⟩ = some (.int .i64 p.dst) := hb4.cell 0; have e1 : W3.cell? ⟨q, 1, none⟩ = some (.string p.fr) := hb4.cell 1; have e2 : W3.cell? ⟨q, 2, none⟩ = some (.bool p.tu) := hb4.cell 2; rw [htu] at e2; rw [hX] at e1; clear hb4 hfr)
    | fail)
  have HW5 : Hid (Zrow (mk W3) W3.heap.size bl ∧ q < W3.heap.size ∧ Below W.heap.size W (mk W3) ∧ Blk (mk W3) q 67 (pcA p) ∧ W.heap.size ≤ W3.heap.size) :=
    Lib.hid ⟨(HZ.out W3).1, HY3.out.lt, HB3.out.trans ((HZ.out W3).2.mono HB3.out.size), HY3.out.out (HZ.out W3).2, HB3.out.size⟩
  clear HZ hcv HB1 HB2 HB3 HY2 HY3 e0 e1 e2
  generalize mk W3 = w5 at *
  generalize cp W3 = qc at *
  generalize W3.heap.size = gz at *
  go_loopw [41] (fun iv wr => ∃ j : Nat, j ≤ 32 ∧ iv = .int .i64 (j : Int) ∧ Hid (Zrow wr gz (bst bl k b Lb j).1 ∧ q < gz ∧ Below W.heap.size W wr ∧ Blk wr q 67 (pcA p) ∧ W.heap.size ≤ gz)) (fun iv _ => 32 - (intOf iv).toNat)
  case atStart => exact ⟨0, by omega, rfl, HW5⟩
  case round =>
    clear HW5
    obtain ⟨j, hj, rfl, H⟩ := hrel
    by_cases hlt : j < 32
    · have hsh := and_one b j hb
      obtain ⟨m, hm0⟩ : ∃ m, m = k + j := ⟨_, rfl⟩
      have hm : (k : Int) + (j : Int) = (m : Int) := by omega
      have HS : Hid (bst bl k b Lb (j + 1) = if b.testBit j = true ∧ m < Lb then (fl (bst bl k b Lb j).1 m, true) else bst bl k b Lb j) := Lib.hid (by rw [hm0]; rfl)
      have HBL := Lib.hid (bst_length bl k b Lb j)
      have hmk : k + j = m := hm0.symm
      clear hm0
      cases hbit : b.testBit j with
      | true =>
        rw [hbit] at hsh HS
        rw [if_pos rfl] at hsh
        by_cases hmL : m < Lb
        · have hmI : (m : Int) < (Lb : Int) := by omega
          obtain ⟨a, ha0⟩ : ∃ a, a = m / 8 := ⟨_, rfl⟩
          obtain ⟨e, he0⟩ : ∃ e, e = m % 8 := ⟨_, rfl⟩
          have ha : (m : Int) / 8 = (a : Int) := by omega
          have he : (m : Int) % 8 = (e : Int) := by omega
          have he8 : e < 8 := by omega
          have hax : (a : Int) < (X.size : Int) := by have := HL.out; omega
          have hal : a < (bst bl k b Lb j).1.length := by rw [HBL.out, HLen.out]; omega
          have hcell := H.out.1.cell a hal
          have hfr := H.out.1.free a hal
          obtain ⟨y, hy⟩ : ∃ y, y = (bst bl k b Lb j).1.getD a 0 := ⟨_, rfl⟩
          rw [← hy] at hcell
          have HY := Lib.hid hy
          have HA := Lib.hid (And.intro ha0 he0)
          clear hy ha0 he0 hal
          go_wp2_with fail
          go_region
          go_wp2_with fail
          have HF : Hid (fl (bst bl k b Lb j).1 m = (bst bl k b Lb j).1.set a (y ^^^ bit8 e)) := Lib.hid (by unfold fl; rw [← HA.out.1, ← HA.out.2, ← HY.out])
          go_roundw
          case rel =>
            refine ⟨j + 1, by omega, by go_num, Lib.hid ?_⟩
            rw [HS.out, if_pos ⟨trivial, hmL⟩, HF.out, xor_byte]
            have hal : a < (bst bl k b Lb j).1.length := by rw [HBL.out, HLen.out]; omega
            exact ⟨H.out.1.put a hal _, H.out.2.1, (H.out.2.2.1.setCell H.out.2.2.2.2 _).drew, (H.out.2.2.2.1.far (p := ⟨gz, a, none⟩) (Nat.ne_of_lt H.out.2.1) _).drew, H.out.2.2.2.2⟩
          case measure => simp [intOf]; omega
        · have hmI : ¬ (m : Int) < (Lb : Int) := by omega
          go_wp2_with fail
          go_roundw
          case rel =>
            refine ⟨j + 1, by omega, by go_num, Lib.hid ?_⟩
            rw [HS.out, if_neg (fun h => hmL h.2)]
            exact H.out
          case measure => simp [intOf]; omega
      | false =>
        rw [hbit] at hsh HS
        rw [if_neg (by decide)] at hsh
        go_wp2_with fail
        go_roundw
        case rel =>
          refine ⟨j + 1, by omega, by go_num, Lib.hid ?_⟩
          rw [HS.out, if_neg (fun h => by cases h.1)]
          exact H.out
        case measure => simp [intOf]; omega
    · obtain rfl : j = 32 := by omega
      have HZl := Lib.hid (show (bst bl k b Lb 32).1.length = X.size by rw [bst_length, HLen.out])
      have HB := Lib.hid H.out.2.2.1
      have hN := HN.out.out HB.out
      have c0 : wr.cell? ⟨g, 0, none⟩ = some (.slice A L c) := hN.cell 0
      clear hN
      go_wp2_with (first
        | (go_at_call 31; (with_reducible refine (HC.out _ (HR.out.out HB.out)).mono ?_); rintro e W6 ⟨v1, rfl, ho, hb⟩; obtain ⟨rb, c1, cur, hv1, hrb, hbl1, hsz1, hlc1, hcm1, hcur1⟩ := ho.blk (by have h1 := HLn.out; have h2 := HLl.out; omega); rw [HLn.out] at hv1 hlc1 hcur1; subst hv1; have HO6 := Lib.hid (And.intro hrb (And.intro hbl1 (And.intro hsz1 (And.intro hlc1 (And.intro hcm1 hcur1))))); have HE6 := Lib.hid hb; clear hrb hbl1 hsz1 hlc1 hcm1 hcur1; have hN6 := (HN.out.out HB.out).out hb; have c6 : W6.cell? ⟨g, 0, none⟩ = some (.slice A L c) := hN6.cell 0; have f6 := hN6.frozen 0; clear ho hb hN6 c0)
        | fail)
      have hgW := HBg.out.2
      have hgz := H.out.2.2.2.2
      have hqz := H.out.2.1
      have hLq := HLq.out
      have hgw := H.out.1.lt
      have HF6 := Lib.hid (Far.setCell W6 ⟨g, 0, none⟩ (.slice (some ⟨rb, 0, none⟩) L c1))
      have HN5 := Lib.hid ((HN.out.out HB.out).out HE6.out)
      have HN6 := Lib.hid (HN5.out.set 0 (.slice (some ⟨rb, 0, none⟩) L c1)).drew
      have HQ6 := Lib.hid ((H.out.2.2.2.1.out HE6.out).of_far HF6.out (show g ≠ q by omega)).drew
      have HZ6 : Hid (Zrow (W6.setCell ⟨g, 0, none⟩ (.slice (some ⟨rb, 0, none⟩) L c1)).drew gz (bst bl k b Lb 32).1) := Lib.hid (by
        obtain ⟨cs, K, z1, z2⟩ := H.out.1.out HE6.out
        exact ⟨cs, K, (HF6.out.block gz (show gz ≠ g by omega)).trans z1, z2⟩)
      have HT6 := Lib.hid (show (convert 45 9 (.slice (some ⟨gz, 0, none⟩) X.size qc)).run Try.prog (W6.setCell ⟨g, 0, none⟩ (.slice (some ⟨rb, 0, none⟩) L c1)).drew = .ok (.string Q) _ from by rw [HQd.out]; exact HZ6.out.text qc X.size HZl.out.symm)
      have HW6 := Lib.hid (HO6.out.2.1.of_far HF6.out (show g ≠ rb by have := HO6.out.1; omega)).drew
      have HFit := Lib.hid (show i * 3 + (pcA ⟨p.dst, Q, true⟩).size ≤ cur.size by have h1 := HO6.out.2.2.1; have h2 := HO6.out.2.2.2.1; have h3 := HLl.out; show i * 3 + 3 ≤ cur.size; omega)
      refine start_ (n := 12) (S := fun W' => W'.cell? ⟨g, 0, none⟩ = some (.slice (some ⟨rb, 0, none⟩) L c1) ∧ W'.cell? ⟨q, 0, none⟩ = some (.int .i64 p.dst) ∧ (convert 45 9 (.slice (some ⟨gz, 0, none⟩) X.size qc)).run Try.prog W' = .ok (.string Q) W') (ds := [11]) #[false, false, false, false, false, false, false, false, false, false, false, false] (by kernel_rfl) rfl rfl (⟨HN6.out.cell 0, HQ6.out.cell 0, HT6.out⟩) (fun hHeld => ?_)
      refine pure_ (i := 0) (N := some 78) (v := ?_) (a' := ?_) #[true, false, false, false, false, false, false, false, false, false, false, false] rfl rfl (by kernel_rfl) (fun _ _ _ h => h) (Or.inl ⟨by rfl, ?_⟩) ?_ ?_
      rotate_left
      · intro w'
        go_simp
        (try with_reducible rfl)
      rotate_left
      · simp only [Act.put, List.setIfInBounds_toArray, List.set_cons_zero, List.set_cons_succ]
        rfl
      refine pure_ (i := 1) (N := some 79) (v := ?_) (a' := ?_) #[true, true, false, false, false, false, false, false, false, false, false, false] rfl rfl (by kernel_rfl) (fun _ _ _ h => h) (Or.inl ⟨by rfl, ?_⟩) ?_ ?_
      rotate_left
      · intro w'
        go_simp
        (try with_reducible rfl)
      rotate_left
      · simp only [Act.put, List.setIfInBounds_toArray, List.set_cons_zero, List.set_cons_succ]
        rfl
      refine pure_ (i := 2) (N := some 80) (v := ?_) (a' := ?_) #[true, true, true, false, false, false, false, false, false, false, false, false] rfl rfl (by kernel_rfl) (fun _ _ _ h => h) (Or.inl ⟨by rfl, ?_⟩) ?_ ?_
      rotate_left
      · intro w'
        go_simp
        (try with_reducible rfl)
      rotate_left
      · simp only [Act.put, List.setIfInBounds_toArray, List.set_cons_zero, List.set_cons_succ]
        rfl
      refine pure_ (i := 4) (N := some 82) (v := ?_) (a' := ?_) #[true, true, true, false, true, false, false, false, false, false, false, false] rfl rfl (by kernel_rfl) (fun _ _ _ h => h) (Or.inl ⟨by rfl, ?_⟩) ?_ ?_
      rotate_left
      · intro w'
        go_simp
        (try with_reducible rfl)
      rotate_left
      · simp only [Act.put, List.setIfInBounds_toArray, List.set_cons_zero, List.set_cons_succ]
        rfl
      refine pure_ (i := 5) (N := some 83) (v := ?_) (a' := ?_) #[true, true, true, false, true, true, false, false, false, false, false, false] rfl rfl (by kernel_rfl) (fun _ _ _ h => h) (Or.inl ⟨by rfl, ?_⟩) ?_ ?_
      rotate_left
      · intro w'
        go_simp
        (try with_reducible rfl)
      rotate_left
      · simp only [Act.put, List.setIfInBounds_toArray, List.set_cons_zero, List.set_cons_succ]
        rfl
      refine pure_ (i := 7) (N := some 85) (v := ?_) (a' := ?_) #[true, true, true, false, true, true, false, true, false, false, false, false] rfl rfl (by kernel_rfl) (fun _ _ _ h => h) (Or.inl ⟨by rfl, ?_⟩) ?_ ?_
      rotate_left
      · intro w'
        go_simp
        (try with_reducible rfl)
      rotate_left
      · simp only [Act.put, List.setIfInBounds_toArray, List.set_cons_zero, List.set_cons_succ]
        rfl
      refine take_ (i := 3) (N := some 81) (v := ?_) (a' := ?_) #[true, true, true, true, true, true, false, true, false, false, false, false] rfl rfl (by kernel_rfl) (fun _ _ _ h => h) (Or.inl ⟨by rfl, ?_⟩) hHeld ?_ ?_
      rotate_left
      · intro w' s0
        (try dsimp only at s0)
        obtain ⟨t1, t2, t3⟩ := s0
        go_simp
        (try with_reducible rfl)
      rotate_left
      · simp only [Act.put, List.setIfInBounds_toArray, List.set_cons_zero, List.set_cons_succ]
        rfl
      refine take_ (i := 6) (N := some 84) (v := ?_) (a' := ?_) #[true, true, true, true, true, true, true, true, false, false, false, false] rfl rfl (by kernel_rfl) (fun _ _ _ h => h) (Or.inl ⟨by rfl, ?_⟩) hHeld ?_ ?_
      rotate_left
      · intro w' s0
        (try dsimp only at s0)
        obtain ⟨t1, t2, t3⟩ := s0
        go_simp
        (try with_reducible rfl)
      rotate_left
      · simp only [Act.put, List.setIfInBounds_toArray, List.set_cons_zero, List.set_cons_succ]
        rfl
      refine take_ (i := 8) (N := some 86) (v := ?_) (a' := ?_) #[true, true, true, true, true, true, true, true, true, false, false, false] rfl rfl (by kernel_rfl) (fun _ _ _ h => h) (Or.inl ⟨by rfl, ?_⟩) hHeld ?_ ?_
      rotate_left
      · intro w' s0
        (try dsimp only at s0)
        obtain ⟨t1, t2, t3⟩ := s0
        go_simp
        (try with_reducible rfl)
      rotate_left
      · simp only [Act.put, List.setIfInBounds_toArray, List.set_cons_zero, List.set_cons_succ]
        rfl
      refine pure_ (i := 9) (N := some 87) (v := ?_) (a' := ?_) #[true, true, true, true, true, true, true, true, true, true, false, false] rfl rfl (by kernel_rfl) (fun _ _ _ h => h) (Or.inl ⟨by rfl, ?_⟩) ?_ ?_
      rotate_left
      · intro w'
        go_simp
        (try with_reducible rfl)
      rotate_left
      · simp only [Act.put, List.setIfInBounds_toArray, List.set_cons_zero, List.set_cons_succ]
        rfl
      refine pure_ (i := 10) (N := some 88) (v := ?_) (a' := ?_) #[true, true, true, true, true, true, true, true, true, true, true, false] rfl rfl (by kernel_rfl) (fun _ _ _ h => h) (Or.inl ⟨by rfl, ?_⟩) ?_ ?_
      rotate_left
      · intro w'
        go_simp
        (try with_reducible rfl)
      rotate_left
      · simp only [Act.put, List.setIfInBounds_toArray, List.set_cons_zero, List.set_cons_succ]
        rfl
      refine last_ (i := 11) (N := none) (oi := ⟨none, Go.Op.store 67 (Go.Operand.tmp 88) (Go.Operand.tmp 87), 0, "net.go:97", #[⟨10, Go.Ground.data⟩, ⟨9, Go.Ground.data⟩, ⟨0, Go.Ground.phase⟩, ⟨1, Go.Ground.phase⟩, ⟨2, Go.Ground.phase⟩, ⟨3, Go.Ground.phase⟩, ⟨4, Go.Ground.phase⟩, ⟨5, Go.Ground.phase⟩, ⟨6, Go.Ground.phase⟩, ⟨7, Go.Ground.phase⟩, ⟨8, Go.Ground.phase⟩, ⟨9, Go.Ground.phase⟩], none⟩) #[true, true, true, true, true, true, true, true, true, true, true, true] rfl rfl (by kernel_rfl) (by decide) (fun K hK => ?_)
      refine step_store_part _ (by rfl) rfl (.tmp 88) (.tmp 87) 67 rfl rb (i * 3) (pcA ⟨p.dst, Q, true⟩) (by simp [Act.eval]) rfl sizePc rfl 67 cur HW6.out HFit.out _ rfl ?_
      intro w7 hb7 hfr
      have HX7 := Lib.hid hb7
      have HF7 := Lib.hid hfr
      clear hb7 hfr
      refine hK.out _ _ ?_
      clear hK K
      try simp only [Act.put, List.setIfInBounds_toArray, List.set_cons_zero, List.set_cons_succ]
      refine done_ (by kernel_rfl) ?_
      go_wp2_with fail
      go_ret
      have h1 := HO6.out.2.2.1
      have h2 := HO6.out.2.2.2.1
      have h3 := HLl.out
      have hrb := HO6.out.1
      have hsz := HB.out.size
      have hset : (l.set i ⟨p.dst, Q, true⟩).length = L := by rw [List.length_set, HLn.out]
      have hBW : B ≤ W.heap.size := Nat.le_trans HBg.out.1 (Nat.le_of_lt hgW)
      refine ⟨⟨_, rfl⟩, ⟨⟨some ⟨rb, 0, none⟩, c1, lost, ?_, ?_⟩, HBg.out.1⟩, ?_⟩
      · rw [hset]
        exact HN6.out.of_far HF7.out (show rb ≠ g by omega)
      · rw [hset]
        refine ⟨by rw [pcs_length], .inr ⟨rb, c1, _, by rw [hset], by omega, HX7.out, by rw [hset]; omega, by unfold maxLen; exact HO6.out.2.2.2.2.1, ?_, ?_⟩⟩
        · have e3 : (pcA (⟨p.dst, Q, true⟩ : Pc)).toList.length = 3 := rfl
          have e4 : (pcA (⟨p.dst, Q, true⟩ : Pc)).size = 3 := rfl
          simp only [List.size_toArray, List.length_append, List.length_take, List.length_drop, e3, e4, Array.length_toList]
          omega
        · rw [List.length_set]
          rw [HLn.out]
          exact HPS.out cur.toList ⟨p.dst, Q, true⟩ HO6.out.2.2.2.2.2 (by rw [Array.length_toList]; omega)
      · exact ((Ef.of_below (HB.out.trans (HE6.out.mono hsz))).trans ((Ef.far HN5.out (by simp) HBg.out.1 HF6.out).out (Below.refl _ _).drew)).trans (Ef.far HW6.out (by simp) (by omega) HF7.out)
end Go.Proofs.Ytjlfoiocceepjaa
