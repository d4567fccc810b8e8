/-
  slices.Delete of one parcel, walked.
-/
import Derived.Test.YtjlfoiocceepjaaNetB
import Derived.Deep.RegionLaw
namespace Go.Proofs.Ytjlfoiocceepjaa
open Go.RowKit Go.Proofs.YtjlfoiocceepjaaW.PrintWords Go.Proofs.YtjlfoiocceepjaaW.PrintLast Go.Proofs.YtjlfoiocceepjaaW.PrintMore
set_option linter.unusedVariables false
set_option linter.unusedSimpArgs false

theorem Far.setCells (W : World) (b o : Nat) (vs : List Value) : Far b W (W.setCells b o vs) := by
  obtain ⟨h1, h2, h3, h4⟩ := setCells_same b vs o W
  exact ⟨h1, h2, h3, h4, fun k hk => setCells_far vs o k hk⟩
theorem zero67 (w : World) : (zeroValue 67).run Try.prog w = .ok (.agg #[.int .i64 0, .string ⟨#[]⟩, .bool false]) w := by kernel_rfl
theorem run_clear_pc (W : World) (b o c : Nat) (ty : TypeId) (cur : Array Value) (h : Blk W b 67 cur) (ho : o + 3 ≤ cur.size) :
    (Builtin.clear_ #[52] ty #[.slice (some ⟨b, o, none⟩) 1 c]).run Try.prog W = .ok (.tuple #[]) (W.setRow b (cur.toList.take o ++ pcC ⟨0, ⟨#[]⟩, false⟩ ++ cur.toList.drop (o + 3)).toArray) := by
  have hst := run_storeCells_at (P := Try.prog) b o 67 (pcC ⟨0, ⟨#[]⟩, false⟩) 0 cur W h (by simpa [pcC] using ho) (by intro v hv; simp [pcC] at hv; rcases hv with rfl | rfl | rfl <;> rfl)
  have hz : (Builtin.zeroCells (Value.agg #[.int .i64 0, .string ⟨#[]⟩, .bool false]).cells 1).toList = pcC ⟨0, ⟨#[]⟩, false⟩ := by first | kernel_rfl | (simp [Builtin.zeroCells, Value.cells, pcC, List.range_succ])
  have hl : (pcC ⟨0, ⟨#[]⟩, false⟩).length = 3 := rfl
  simp only [Nat.add_zero, hl] at hst
  simp [Builtin.clear_, run_underlying Try.underlying52, zero67, hz, hst]
set_option maxRecDepth 100000 in
set_option maxHeartbeats 8000000 in
theorem delete_in (W : World) (b i n c c2 m : Nat) (ad : Addr) (cur : Array Value) (news : List Value) (i0 : TypeInfo) (hI : Try.prog.info? 67 = some i0 ∧ i0.size = 3) (hb : Blk W b 67 cur) (hcur : cur.size = c * 3) (hin : i < n) (hnc : n ≤ c) (hcm : c ≤ 9223372036854775807) (hn300 : n ≤ 300)
    (hm : i + m + 1 = n) (hc2 : c2 = c - (i + 1)) (had : ad = if c = i + 1 then ⟨b, 0, none⟩ else ⟨b, (i + 1) * 3, none⟩)
    (hnl : news.length = m * 3) (hnc2 : ∀ j u, news[j]? = some u → W.cell? (ad.add j) = some u) (hn1 : ∀ u ∈ news, u.oneCell' = true) :
    Calls Try.prog 32 #[.slice (some ⟨b, 0, none⟩) n c, .int .i64 (i : Int), .int .i64 ((i : Int) + 1)] W fun e w' => e = .returned (.slice (some ⟨b, 0, none⟩) (i + m) c) ∧ ∃ cur1 : Array Value, cur1.size = cur.size ∧ cur1.toList = cur.toList.take (i * 3) ++ news ++ cur.toList.drop (i * 3 + news.length) ∧ Far b W w' ∧
      Blk w' b 67 (cur1.toList.take ((i + m) * 3) ++ pcC ⟨0, ⟨#[]⟩, false⟩ ++ cur1.toList.drop ((i + m) * 3 + 3)).toArray := by
  have HI := Lib.hid hI
  have HNl := Lib.hid hnl
  have HNc : Hid (∀ j u, news[j]? = some u → W.drew.cell? (ad.add j) = some u) := Lib.hid hnc2
  have HN1 := Lib.hid hn1
  have HNs : Hid (∀ j, j < news.length → (W.drew.cell? ⟨b, 0 + i * 3 + j, none⟩).isSome = true ∧ W.drew.frozen? ⟨b, 0 + i * 3 + j, none⟩ = false) := Lib.hid (fun j hj => by
    have hd := hb.drew
    refine ⟨?_, hd.frozen _⟩
    rw [hd.cell, Array.getElem?_eq_getElem (by omega)]
    rfl)
  have s1 : ∀ w : World, (Instr.slice 52 (.slice (some ⟨b, 0, none⟩) n c) none (some (.int .i64 (i : Int))) none).run Try.prog w = .ok (.slice (some ⟨b, 0, none⟩) i c) w := fun w => by
    have h1 := fun w => run_sizeOf (P := Try.prog) sizePc w
    have e : (⟨b, 0, none⟩ : Addr).add 0 = ⟨b, 0, none⟩ := by unfold Addr.add; split <;> simp_all
    rw [run_slice_h w 52 _ n c (show Try.prog.underlying 52 = some (.slice (Try.prog.elem 52)) by kernel_rfl) .i64 (i : Int) (by omega) (by omega)]
    have h2 : Try.prog.elem 52 = 67 := by kernel_rfl
    rw [h2, h1]
    simp [Result.andThen, sliced, e]
  have s2 : ∀ w : World, (Instr.slice 52 (.slice (some ⟨b, 0, none⟩) n c) (some (.int .i64 ((i : Int) + 1))) none none).run Try.prog w = .ok (.slice (some ad) m c2) w := fun w => by
    have h1 := fun w => run_sizeOf (P := Try.prog) sizePc w
    have e : (⟨b, 0, none⟩ : Addr).add ((i + 1) * 3) = ⟨b, (i + 1) * 3, none⟩ := by unfold Addr.add; split <;> simp_all
    have e2 : ((i : Int) + 1).toNat = i + 1 := by omega
    have e3 : n - (i + 1) = m := by omega
    rw [run_slice_l w 52 _ n c (show Try.prog.underlying 52 = some (.slice (Try.prog.elem 52)) by kernel_rfl) .i64 ((i : Int) + 1) (by omega) (by omega)]
    have h2 : Try.prog.elem 52 = 67 := by kernel_rfl
    rw [h2, h1]
    simp only [Result.andThen_ok, sliced, e2, e3, Option.map_some, e, had, hc2]
    split <;> rfl
  obtain ⟨W1, hW1⟩ : ∃ W1, W1 = W.drew.setCells b (i * 3) news := ⟨_, rfl⟩
  have HW1 := Lib.hid hW1
  obtain ⟨cur1, hc1, hc3, hc4⟩ := setCells_row (e := 67) news (i * 3) W.drew cur hb.drew (by omega)
  rw [← hW1] at hc1
  have hb1 : Blk W1 b 67 cur1 := hc1
  have hcl := fun ty => run_clear_pc W1 b ((i + m) * 3) (c - (i + m)) ty cur1 hb1 (by omega)
  obtain ⟨W2, hW2⟩ : ∃ W2, W2 = W1.setRow b (cur1.toList.take ((i + m) * 3) ++ pcC ⟨0, ⟨#[]⟩, false⟩ ++ cur1.toList.drop ((i + m) * 3 + 3)).toArray := ⟨_, rfl⟩
  rw [← hW2, hW1] at hcl
  have s3 : ∀ w : World, (Instr.slice 52 (.slice (some ⟨b, 0, none⟩) (i + m) c) (some (.int .i64 ((i : Int) + (m : Int)))) (some (.int .i64 (n : Int))) none).run Try.prog w = .ok (.slice (some ⟨b, (i + m) * 3, none⟩) 1 (c - (i + m))) w := fun w => by
    have h1 := fun w => run_sizeOf (P := Try.prog) sizePc w
    have e : (⟨b, 0, none⟩ : Addr).add ((i + m) * 3) = ⟨b, (i + m) * 3, none⟩ := by unfold Addr.add; split <;> simp_all
    have e2 : ((i : Int) + (m : Int)).toNat = i + m := by omega
    have e3 : ((n : Int)).toNat = n := by omega
    have e4 : n - (i + m) = 1 := by omega
    rw [run_slice_lh w 52 _ (i + m) c (show Try.prog.underlying 52 = some (.slice (Try.prog.elem 52)) by kernel_rfl) .i64 .i64 ((i : Int) + (m : Int)) (n : Int) (by omega) (by omega) (by omega)]
    have h2 : Try.prog.elem 52 = 67 := by kernel_rfl
    rw [h2, h1]
    simp only [Result.andThen_ok, sliced, e2, e3, e4, Option.map_some, e]
    rw [if_neg (by omega)]
  have HF : Hid (cur1.size = cur.size ∧ cur1.toList = cur.toList.take (i * 3) ++ news ++ cur.toList.drop (i * 3 + news.length) ∧ Far b W W2 ∧ Blk W2 b 67 (cur1.toList.take ((i + m) * 3) ++ pcC ⟨0, ⟨#[]⟩, false⟩ ++ cur1.toList.drop ((i + m) * 3 + 3)).toArray) := Lib.hid
    ⟨hc3, hc4, by
      have f1 : Far b W.drew W1 := by rw [hW1]; exact Far.setCells _ _ _ _
      have f2 : Far b W1 W2 := by rw [hW2]; exact Far.of_setRow _ _ _
      have f3 := f1.trans f2
      exact ⟨f3.os, f3.tape, f3.output, f3.size, f3.block⟩, by rw [hW2]; exact hb1.row _⟩
  have hne : ((i : Int) == (i : Int) + 1) = false := beq_eq_false_iff_ne.2 (by omega)
  have hiI : (i : Int) + 1 ≤ (n : Int) := by omega
  have hin2 : (i : Int) < (n : Int) := by omega
  clear hI hnl hnc2 hn1 hW1 hc1 hc3 hc4 hb1 hW2 hb hcur had hc2
  go_enter Try.func32, Try.ntmps32
  go_wp2_with fail
  refine start_ (n := 8) (S := fun _ => True) (ds := []) #[false, false, false, false, false, false, false, false] (by kernel_rfl) rfl rfl (trivial) (fun hHeld => ?_)
  refine pure_ (i := 0) (N := some 20) (v := ?_) (a' := ?_) #[true, false, false, false, false, false, false, false] rfl rfl (by kernel_rfl) (fun _ _ _ h => h) (Or.inl ⟨by rfl, ?_⟩) ?_ ?_
  rotate_left
  · intro w'
    go_simp
    (try with_reducible rfl)
  rotate_left
  · simp only [Act.put, List.setIfInBounds_toArray, List.set_cons_zero, List.set_cons_succ]
    rfl
  refine pure_ (i := 1) (N := some 21) (v := ?_) (a' := ?_) #[true, true, false, false, false, false, false, false] rfl rfl (by kernel_rfl) (fun _ _ _ h => h) (Or.inl ⟨by rfl, ?_⟩) ?_ ?_
  rotate_left
  · intro w'
    go_simp
    (try with_reducible rfl)
  rotate_left
  · simp only [Act.put, List.setIfInBounds_toArray, List.set_cons_zero, List.set_cons_succ]
    rfl
  refine pure_ (i := 2) (N := some 22) (v := ?_) (a' := ?_) #[true, true, true, false, false, false, false, false] rfl rfl (by kernel_rfl) (fun _ _ _ h => h) (Or.inl ⟨by rfl, ?_⟩) ?_ ?_
  rotate_left
  · intro w'
    go_simp
    (try with_reducible rfl)
  rotate_left
  · simp only [Act.put, List.setIfInBounds_toArray, List.set_cons_zero, List.set_cons_succ]
    rfl
  refine pure_ (i := 3) (N := some 23) (v := ?_) (a' := ?_) #[true, true, true, true, false, false, false, false] rfl rfl (by kernel_rfl) (fun _ _ _ h => h) (Or.inl ⟨by rfl, ?_⟩) ?_ ?_
  rotate_left
  · intro w'
    go_simp
    (try with_reducible rfl)
  rotate_left
  · simp only [Act.put, List.setIfInBounds_toArray, List.set_cons_zero, List.set_cons_succ]
    rfl
  refine pure_ (i := 4) (N := some 24) (v := ?_) (a' := ?_) #[true, true, true, true, true, false, false, false] rfl rfl (by kernel_rfl) (fun _ _ _ h => h) (Or.inl ⟨by rfl, ?_⟩) ?_ ?_
  rotate_left
  · intro w'
    go_simp
    (try with_reducible rfl)
  rotate_left
  · simp only [Act.put, List.setIfInBounds_toArray, List.set_cons_zero, List.set_cons_succ]
    rfl
  refine pure_ (i := 5) (N := some 25) (v := ?_) (a' := ?_) #[true, true, true, true, true, true, false, false] rfl rfl (by kernel_rfl) (fun _ _ _ h => h) (Or.inl ⟨by rfl, ?_⟩) ?_ ?_
  rotate_left
  · intro w'
    go_simp
    (try with_reducible rfl)
  rotate_left
  · simp only [Act.put, List.setIfInBounds_toArray, List.set_cons_zero, List.set_cons_succ]
    rfl
  refine one_ (i := 6) (N := some 26) (oi := ⟨some 26, Go.Op.call ⟨Go.Callee.builtin Go.Builtin.append, #[Go.Operand.tmp 22, Go.Operand.tmp 25], #[52, 52]⟩, 52, "slices.go:232", #[⟨2, Go.Ground.data⟩, ⟨5, Go.Ground.data⟩], none⟩) #[true, true, true, true, true, true, true, false] rfl rfl (by kernel_rfl) (by decide) (fun K hK => ?_)
  refine step_append_room rfl (.tmp 22) (.tmp 25) 52 rfl 67 i0 3 Try.underlying52 HI.out.1 HI.out.2 b 0 i c rfl ad m c2 news rfl HNl.out HNc.out HN1.out (by omega) HNs.out ?_
  refine hK.out _ _ (trivial) (fun hHeld => ?_)
  clear hK K
  try simp only [Act.put, List.setIfInBounds_toArray, List.set_cons_zero, List.set_cons_succ]
  refine pure_ (i := 7) (N := some 0) (v := ?_) (a' := ?_) #[true, true, true, true, true, true, true, true] rfl rfl (by kernel_rfl) (fun _ _ _ h => h) (Or.inl ⟨by rfl, ?_⟩) ?_ ?_
  rotate_left
  · intro w'
    go_simp
    (try with_reducible rfl)
  rotate_left
  · simp only [Act.put, List.setIfInBounds_toArray, List.set_cons_zero, List.set_cons_succ]
    rfl
  refine done_ (by kernel_rfl) ?_
  go_wp2_with fail
  go_ret
  exact ⟨rfl, cur1, HF.out⟩
end Go.Proofs.Ytjlfoiocceepjaa
