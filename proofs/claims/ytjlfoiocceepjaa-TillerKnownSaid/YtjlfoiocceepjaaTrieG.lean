/-
  The trie's Put of a new row, walked.
-/
import Derived.Test.YtjlfoiocceepjaaTrieF
import Derived.Deep.DeepCutAuto
namespace Go.Proofs.Ytjlfoiocceepjaa.Trie
open Go.RowKit Go.Proofs.YtjlfoiocceepjaaW.PrintWords Go.Proofs.YtjlfoiocceepjaaW.PrintLast Go.Proofs.YtjlfoiocceepjaaW.PrintMore
set_option linter.unusedVariables false
set_option linter.unusedSimpArgs false

variable {B : Nat} {W : World} {t : Nat} {D : List (List Int)} {L : Lay} {cnt : Int} {K : Nat}
/-- k steps down a row that is hung in -/
structure PutI (B : Nat) (W wr : World) (t : Nat) (D : List (List Int)) (L : Lay) (cnt : Int) (K : Nat) (D' : List (List Int)) (L' : Lay) (k : Nat) : Prop where
  ti : TI B wr t D' L' cnt (K + k)
  ef : Ef B [29, 31] W wr
  old : ∀ p, p ∈ D → p ∈ D' ∧ L'.th p = L.th p ∧ L'.va p = L.va p
  new : ∀ p, p ∈ D' → p ∈ D ∨ L'.th p = false
variable {D' : List (List Int)} {L' : Lay} {wr w2 : World} {k g0 : Nat} {l0 : List Int} {x0 : Int}
theorem PutI.go (h : PutI B W wr t D L cnt K D' L' k) : PutI B W wr t D L cnt K D' L' (k + 1) := ⟨h.ti.more (by omega), h.ef, h.old, h.new⟩
theorem PutI.made (h : PutI B W wr t D L cnt K D' L' k) {p : List Int} (hp : p ∈ D') (hm : L'.mp p = none) (hB : B ≤ wr.heap.size) :
    PutI B W ((wr.alloc (.map #[] 0)).setCell ⟨L'.ad p, 0, none⟩ (.map (some wr.heap.size))) t D L cnt K D' { L' with mp := upd L'.mp p (some wr.heap.size) } k := by
  obtain ⟨h1, h2⟩ := h.ti.made hp hm hB
  exact ⟨h1, h.ef.trans h2, h.old, h.new⟩
theorem PutI.hung (h : PutI B W wr t D L cnt K D' L' k) {p : List Int} (hp : p ∈ D') (x : Int) (hx : p ++ [x] ∉ D') {b : Nat} (hm : L'.mp p = some b) (hB : B ≤ wr.heap.size) {g : Nat} (hg : g = wr.heap.size) {W1 W2 : World} (hb : Below wr.heap.size wr W1)
    (hn : Blk W1 g 29 #[.map none, .bool false, .int .i64 0]) (hma : MapAt Ptr W2 b (mput (L'.ki p) x (some g))) (hgr : W1.grownBy W2 (some b)) :
    PutI B W W2 t D L cnt K ((p ++ [x]) :: D') (L'.hung p x g) (k + 1) := by
  obtain ⟨h1, h2⟩ := h.ti.hung hp x hx hm hB hg hb hn hma hgr
  have hnD : ∀ q, q ∈ D' → q ≠ p ++ [x] := fun q hq e => hx (e ▸ hq)
  refine ⟨h1, h.ef.trans h2, fun q hq => ?_, fun q hq => ?_⟩
  · obtain ⟨h3, h4, h5⟩ := h.old q hq
    refine ⟨List.mem_cons_of_mem _ h3, ?_, ?_⟩
    · show upd L'.th (p ++ [x]) false q = _
      rw [upd_ne _ _ (hnD q h3), h4]
    · show upd L'.va (p ++ [x]) 0 q = _
      rw [upd_ne _ _ (hnD q h3), h5]
  · show q ∈ D ∨ upd L'.th (p ++ [x]) false q = false
    rcases List.mem_cons.1 hq with e | hq
    · rw [e, upd_same]
      exact .inr rfl
    · rw [upd_ne _ _ (hnD q hq)]
      exact h.new q hq
theorem PutI.look (h : PutI B W w2 t D L cnt K ((l0 ++ [x0]) :: D') (L'.hung l0 x0 g0) k) (hp : l0 ∈ D') {b : Nat} (hm : L'.mp l0 = some b) (hx : (Lit.int .i64 x0).wf = true) :
    w2.cell? ⟨L'.ad l0, 0, none⟩ = some (.map (some b)) ∧ (Instr.lookup 27 (.map (some b)) (.int .i64 x0) false).run Try.prog w2 = .ok (.pointer (some ⟨g0, 0, none⟩)) w2 := by
  have e1 : (L'.hung l0 x0 g0).ad l0 = L'.ad l0 := upd_ne _ _ (ne_snoc _ _)
  have e2 : (L'.hung l0 x0 g0).mp l0 = L'.mp l0 := upd_ne _ _ (ne_snoc _ _)
  have e3 : (L'.hung l0 x0 g0).ad (l0 ++ [x0]) = g0 := upd_same _ _ _
  have h1 := (h.ti.cells (List.mem_cons_of_mem _ hp)).1
  have h2 := h.ti.look (List.mem_cons_of_mem _ hp) x0 hx
  rw [if_pos (List.mem_cons_self ..), e3, e2, hm] at h2
  rw [e1, e2, hm] at h1
  exact ⟨h1, h2⟩
/-- one that has a node below has a map -/
theorem TI.hasmap (h : TI B W t D L cnt K) {p : List Int} (hp : p ∈ D) {x : Int} (hx : p ++ [x] ∈ D) : ∃ b, L.mp p = some b := by
  cases hm : L.mp p with
  | some b => exact ⟨b, rfl⟩
  | none =>
    have h1 := h.map p hp
    rw [hm] at h1
    have h1' : L.ki p = [] := h1
    have h2 := (h.kids p hp x).1 hx
    rw [h1'] at h2
    cases h2
/-- a trie behind a Put: rows that are there were there, or bear the new value -/
structure PutE (B : Nat) (W w' : World) (t : Nat) (D : List (List Int)) (L : Lay) (cnt : Int) (K : Nat) (v : Int) : Prop where
  ex : ∃ (D' : List (List Int)) (L' : Lay) (c' : Int), TI B w' t D' L' c' (K + 1000) ∧ cnt ≤ c' ∧ c' ≤ cnt + 1 ∧ ∀ p, p ∈ D' → L'.th p = true → (p ∈ D ∧ L.th p = true ∧ L'.va p = L.va p) ∨ L'.va p = v
  ef : Ef B [29, 31] W w'

theorem PutI.made1 (h : PutI B W wr t D L cnt K D' L' k) {p : List Int} (hp : p ∈ D') (hm : L'.mp p = none) (hB : B ≤ wr.heap.size) :
    ∃ L1, PutI B W ((wr.alloc (.map #[] 0)).setCell ⟨L'.ad p, 0, none⟩ (.map (some wr.heap.size))) t D L cnt K D' L1 k ∧ L1.ad = L'.ad ∧ L1.mp p = some wr.heap.size :=
  ⟨_, h.made hp hm hB, rfl, upd_same _ _ _⟩
/-- the row's end -/
theorem PutI.done (h : PutI B W wr t D L cnt K D' L' k) {l : List Int} (hl : l ∈ D') (hln : l ≠ []) (hk : k ≤ 1000) (v : Int) :
    PutE B W (((wr.setCell ⟨L'.ad l, 1, none⟩ (.bool true)).setCell ⟨L'.ad l, 2, none⟩ (.int .i64 v)).setCell ⟨t, 3, none⟩ (.int .i64 (cnt + 1))) t D L cnt K v := by
  have f1 := Far.setCell wr ⟨L'.ad l, 1, none⟩ (.bool true)
  have f2 := f1.trans (Far.setCell (wr.setCell ⟨L'.ad l, 1, none⟩ (.bool true)) ⟨L'.ad l, 2, none⟩ (.int .i64 v))
  have h1 := h.ti.ends hl hln true v f2 (((h.ti.node l hl hln).set 1 (.bool true)).set 2 (.int .i64 v))
  have f3 := Far.setCell ((wr.setCell ⟨L'.ad l, 1, none⟩ (.bool true)).setCell ⟨L'.ad l, 2, none⟩ (.int .i64 v)) ⟨t, 3, none⟩ (.int .i64 (cnt + 1))
  have h2 := h1.count (cnt + 1) f3 (h1.root.set 3 _)
  refine ⟨⟨D', _, _, h2.more (by omega), by omega, Int.le_refl _, fun p hp hth => ?_⟩, (h.ef.trans (h.ti.efar hl f2)).trans ?_⟩
  · have hth' : upd L'.th l true p = true := hth
    show _ ∨ upd L'.va l v p = v
    by_cases e : p = l
    · rw [e, upd_same]
      exact .inr rfl
    · rw [upd_ne _ _ e] at hth'
      rcases h.new p hp with hd | hf
      · obtain ⟨_, h4, h5⟩ := h.old p hd
        refine .inl ⟨hd, h4 ▸ hth', ?_⟩
        show upd L'.va l v p = _
        rw [upd_ne _ _ e, h5]
      · rw [hf] at hth'
        cases hth'
  · have h3 := h1.efar h1.nil (p := []) (W' := ((wr.setCell ⟨L'.ad l, 1, none⟩ (.bool true)).setCell ⟨L'.ad l, 2, none⟩ (.int .i64 v)).setCell ⟨t, 3, none⟩ (.int .i64 (cnt + 1)))
    exact h3 (by rw [h1.rt]; exact f3)

set_option maxRecDepth 100000 in
set_option maxHeartbeats 8000000 in
theorem put_new (h : TI B W t D L cnt K) (A : Option Addr) (c B' : Nat) (l : List Int) (v : Int) (hr : KI.R 3 W B' All (.slice A l.length c) l) (hw : ∀ x, x ∈ l → (Lit.int .i64 x).wf = true) (hlm : l.length ≤ 128) (hl0 : 0 < l.length) (hl : ¬ (l ∈ D ∧ L.th l = true)) (hc : cnt < 1000) (hc0 : -1000 < cnt) (hK : K ≤ 100000) (hB : B ≤ W.heap.size) :
    Calls Try.prog 8 #[.pointer (some ⟨t, 0, none⟩), .slice A l.length c, .int .i64 v] W fun e w' => e = .returned (.tuple #[.bool true, .int .i64 0]) ∧ PutE B W w' t D L cnt K v := by
  have HA := Lib.hid (at_any h A c l (KI_C hr).2.2 hw (by omega))
  have HR := Lib.hid hr
  have HWf := Lib.hid hw
  have HLm := Lib.hid hlm
  have HT := Lib.hid h
  have HB := Lib.hid hB
  have HK := Lib.hid hK
  have c3 : W.cell? ⟨t, 3, none⟩ = some (.int .i64 cnt) := h.root.cell 3
  have hcn : ¬ (1000 : Int) ≤ cnt := by omega
  have h0 : ((l.length : Int) == 0) = false := beq_eq_false_iff_ne.2 (by omega)
  have h1 : ¬ (128 : Int) < (l.length : Int) := by omega
  have hq := fun (w : World) (b : Option Nat) => Go.run_eql_map_nil (P := Try.prog) w 27 3 80 b Try.underlying27
  have hmm := @run_makeMap Try.prog
  have HL0 := Lib.hid hl0
  have HP0 : Hid (PutI B W W t D L cnt K D L 0) := Lib.hid ⟨h.more (by omega), Ef.refl _ _ _, fun p hp => ⟨hp, rfl, rfl⟩, fun p hp => .inl hp⟩
  obtain ⟨nv, hnv⟩ : ∃ nv, nv = ptrV (if l ∈ D then some (L.ad l) else none) := ⟨_, rfl⟩
  rw [← hnv] at HA
  have hrt := h.rt
  have hnil := h.nil
  suffices hs : ∀ nv, Hid (Calls Try.prog 25 #[.pointer (some ⟨t, 0, none⟩), .slice A l.length c] W fun e w' => e = .returned nv ∧ w' = W) → (nv = .pointer none ∨ ∃ g, nv = .pointer (some ⟨g, 0, none⟩) ∧ W.cell? ⟨g, 1, none⟩ = some (.bool false)) → _ by
    refine hs nv HA ?_
    by_cases hd : l ∈ D
    · rw [if_pos hd] at hnv
      refine .inr ⟨L.ad l, hnv, ?_⟩
      have := (h.cells hd).2.1
      cases hth : L.th l with
      | true => exact absurd ⟨hd, hth⟩ hl
      | false => rw [hth] at this; exact this
    · rw [if_neg hd] at hnv
      exact .inl hnv
  clear HA hnv nv hr hw hlm hl hK hB h hl0 hc
  intro nv HA hnv
  rcases hnv with rfl | ⟨g0, rfl, cg⟩
  all_goals
    go_enter Try.func8, Try.ntmps8
    go_wp2_with (first
      | (go_at_call 25; (with_reducible refine (HA.out).mono ?_); rintro e W1 ⟨rfl, hW1⟩; subst W1)
      | fail)
    go_loopw [9, 43] (fun nv iv wr => ∃ (k : Nat) (D' : List (List Int)) (L' : Lay), k ≤ l.length ∧ iv = .int .i64 (k : Int) ∧ nv = .pointer (some ⟨L'.ad (l.take k), 0, none⟩) ∧ l.take k ∈ D' ∧ Hid (PutI B W wr t D L cnt K D' L' k)) (fun _ iv _ => l.length - (intOf iv).toNat)
    case atStart => exact ⟨0, D, L, Nat.zero_le _, rfl, by rw [List.take_zero, hrt], by rw [List.take_zero]; exact hnil, HP0⟩
    case round =>
      obtain ⟨k, D', L', hk, rfl, rfl, hD, HI⟩ := hrel
      by_cases hkl : k < l.length
      · have hC := (KI_C (KI_ef HR.out HI.out.ef (by simp))).2.2
        obtain ⟨ad, hA, hat⟩ := KI_at hC (by omega)
        subst hA
        have hcx := hat k hkl
        obtain ⟨x, hx⟩ : ∃ x, x = rd l (k : Int) := ⟨_, rfl⟩
        have hx2 : l[k] = x := by rw [hx]; simp [rd, hkl]
        rw [← hx] at hcx
        have HX := Lib.hid (HWf.out x (by rw [← hx2]; exact List.getElem_mem hkl))
        have e : l.take k ++ [x] = l.take (k + 1) := by rw [List.take_succ_eq_append_getElem hkl, hx2]
        obtain ⟨p, hp⟩ : ∃ p, p = l.take k := ⟨_, rfl⟩
        rw [← hp] at hD e ⊢
        have HE := Lib.hid e
        have hkI : (k : Int) < (l.length : Int) := by omega
        have HBw := Lib.hid (Nat.le_trans HB.out HI.out.ef.size)
        have HDp := Lib.hid hD
        clear hx hx2 hat hC e hp hD
        by_cases hd : p ++ [x] ∈ D'
        · obtain ⟨b, hb⟩ := HI.out.ti.hasmap HDp.out hd
          have hlk := HI.out.ti.look HDp.out x HX.out
          rw [if_pos hd, hb] at hlk
          have hc0 := (HI.out.ti.cells HDp.out).1
          rw [hb] at hc0
          unfold ptrV at hlk
          simp only [Option.map_some] at hlk
          clear hb
          go_wp2_with fail
          go_roundw
          case rel => exact ⟨k + 1, D', L', by omega, by go_num, by rw [← HE.out], by rw [← HE.out]; exact hd, Lib.hid HI.out.go⟩
          case measure => simp [intOf]; omega
        · have HNd := Lib.hid hd
          have hlk := HI.out.ti.look HDp.out x HX.out
          rw [if_neg hd] at hlk
          unfold ptrV at hlk
          simp only [Option.map_none] at hlk
          have hc0 := (HI.out.ti.cells HDp.out).1
          obtain ⟨mm, hmm2⟩ : ∃ mm, mm = L'.mp p := ⟨_, rfl⟩
          rw [← hmm2] at hc0 hlk
          have HN : Hid ((L'.ki p).length < 1000000) := Lib.hid (by have := HI.out.ti.few p HDp.out; have := HK.out; have := HLm.out; omega)
          have HMs := HI.out.ti.map p HDp.out
          cases mm with
          | some b =>
            have HM := Lib.hid hmm2.symm
            have HMa : Hid (MapAt Ptr wr b (L'.ki p)) := Lib.hid (by rw [← hmm2] at HMs; exact HMs)
            clear hd hmm2 HMs
            go_wp2_with (first
              | ((with_reducible refine gate_dst (N := 69) rfl ?_); refine box_event rfl (N := 69) rfl (cs := #[.map none, .bool false, .int .i64 0]) (t := 29) ?hr ?_; (case hr => first | (go_simp; done) | (go_simp; rfl)); intro g hg W1 hbox hb1; have HG := Lib.hid hg; have HBx := Lib.hid (show Blk W1 g 29 #[.map none, .bool false, .int .i64 0] from hbox); have HB1 := Lib.hid hb1; clear hg hbox hb1)
              | (at_mapUpdate; refine wpList_put _ rfl _ _ _ 27 rfl 80 Try.underlying27 b (L'.ki p) rfl (MapAt.eq HMa.out (HB1.out.block b (MapAt.lt HMa.out))) HN.out x HX.out rfl (some g) rfl ?_; intro w2 m1 g1; have HI2 := Lib.hid (HI.out.hung HDp.out x HNd.out HM.out HBw.out HG.out HB1.out HBx.out m1 g1); obtain ⟨c2, lk2⟩ := HI2.out.look HDp.out HM.out HX.out; clear m1 g1)
              | fail)
            go_roundw
            case rel => exact ⟨k + 1, _, _, by omega, by go_num, by rw [← HE.out]; show _ = Value.pointer (some ⟨upd L'.ad (p ++ [x]) g (p ++ [x]), 0, none⟩); rw [upd_same], by rw [← HE.out]; exact List.mem_cons_self .., HI2⟩
            case measure => simp [intOf]; omega
          | none =>
            have HM := Lib.hid hmm2.symm
            have hne := World.new_ne wr _ hc0
            obtain ⟨ty0, cs0, hbk, _⟩ := HI.out.ti.blk HDp.out
            have hf0 := (hbk.alloc (.map #[] 0)).frozen 0
            have hca : (wr.alloc (.map #[] 0)).cell? ⟨L'.ad p, 0, none⟩ = some (.map none) := Lib.cell?_alloc_some _ hc0
            clear hd hmm2 HMs hbk
            go_upto_region 17 with (fail)
            obtain ⟨L1, hI1, hA1, hM1⟩ := HI.out.made1 HDp.out HM.out HBw.out
            obtain ⟨b, hb⟩ : ∃ b, b = wr.heap.size := ⟨_, rfl⟩
            rw [← hb] at hI1 hM1 ⊢
            have HBb := Lib.hid hb
            have HWr : Hid (wr.heap.size ≤ ((wr.alloc (.map #[] 0)).setCell ⟨L'.ad p, 0, none⟩ (.map (some b))).heap.size) := Lib.hid (by simp [World.setCell])
            obtain ⟨w1, hw1⟩ : ∃ w1, w1 = (wr.alloc (.map #[] 0)).setCell ⟨L'.ad p, 0, none⟩ (.map (some b)) := ⟨_, rfl⟩
            rw [← hw1] at hI1 HWr ⊢
            have HI1 := Lib.hid hI1
            have HM1 := Lib.hid hM1
            have HBw1 := Lib.hid (Nat.le_trans HBw.out HWr.out)
            have hc1 := (HI1.out.ti.cells HDp.out).1
            have hlk1 := HI1.out.ti.look HDp.out x HX.out
            rw [if_neg HNd.out, hM1] at hlk1
            unfold ptrV at hlk1
            simp only [Option.map_none] at hlk1
            rw [hA1, hM1] at hc1
            have HMa : Hid (MapAt Ptr w1 b (L1.ki p)) := Lib.hid (by have := HI1.out.ti.map p HDp.out; rw [HM1.out] at this; exact this)
            have HN1 : Hid ((L1.ki p).length < 1000000) := Lib.hid (by have := HI1.out.ti.few p HDp.out; have := HK.out; have := HLm.out; omega)
            have HA1 := Lib.hid (congrFun hA1 p)
            clear hw1 hb hI1 hM1 hA1 hlk hc0 hca hf0 hne HN
            go_wp2_with (first
              | ((with_reducible refine gate_dst (N := 69) rfl ?_); refine box_event rfl (N := 69) rfl (cs := #[.map none, .bool false, .int .i64 0]) (t := 29) ?hr ?_; (case hr => first | (go_simp; done) | (go_simp; rfl)); intro g hg W1 hbox hb1; have HG := Lib.hid hg; have HBx := Lib.hid (show Blk W1 g 29 #[.map none, .bool false, .int .i64 0] from hbox); have HB1 := Lib.hid hb1; clear hg hbox hb1)
              | (at_mapUpdate; refine wpList_put _ rfl _ _ _ 27 rfl 80 Try.underlying27 b (L1.ki p) rfl (MapAt.eq HMa.out (HB1.out.block b (MapAt.lt HMa.out))) HN1.out x HX.out rfl (some g) rfl ?_; intro w2 m1 g1; have HI2 := Lib.hid (HI1.out.hung HDp.out x HNd.out HM1.out HBw1.out HG.out HB1.out HBx.out m1 g1); obtain ⟨c2, lk2⟩ := HI2.out.look HDp.out HM1.out HX.out; rw [HA1.out] at c2; clear m1 g1)
              | fail)
            go_roundw
            case rel => exact ⟨k + 1, _, _, by omega, by go_num, by rw [← HE.out]; show _ = Value.pointer (some ⟨upd L1.ad (p ++ [x]) g (p ++ [x]), 0, none⟩); rw [upd_same], by rw [← HE.out]; exact List.mem_cons_self .., HI2⟩
            case measure => simp [intOf]; omega
      · obtain rfl : k = l.length := by omega
        rw [List.take_length] at hD ⊢
        have hln : l ≠ [] := fun e => by have := HL0.out; rw [e] at this; simp at this
        have hnd := HI.out.ti.node l hD hln
        have hro := HI.out.ti.root
        have hne : L'.ad l ≠ t := fun e => hln (HI.out.ti.adinj l [] hD HI.out.ti.nil (by rw [HI.out.ti.rt]; exact e))
        have HDn := Lib.hid (HI.out.done hD hln (by have := HLm.out; omega) v)
        have d1 := hnd.cell 1
        have d2 := hnd.cell 2
        have d3 := hro.cell 3
        have f1 := hnd.frozen 1
        have f2 := hnd.frozen 2
        have f3 := hro.frozen 3
        have hcs : ∀ (W : World) (i j : Nat) (v : Value), (W.setCell ⟨L'.ad l, i, none⟩ v).cell? ⟨t, j, none⟩ = W.cell? ⟨t, j, none⟩ := fun W i j v => World.cell?_setCell_other _ _ _ _ (fun e => hne (congrArg Addr.block e))
        obtain ⟨gl, hgl⟩ : ∃ gl, gl = L'.ad l := ⟨_, rfl⟩
        rw [← hgl] at d1 d2 f1 f2 hcs hne HDn ⊢
        clear hgl hnd hro hD hkl hk
        simp only [List.getElem?_toArray, List.getElem?_cons_succ, List.getElem?_cons_zero] at d1 d2 d3
        go_wp2_with fail
        go_ret2
        exact ⟨rfl, HDn.out⟩
end Go.Proofs.Ytjlfoiocceepjaa.Trie
