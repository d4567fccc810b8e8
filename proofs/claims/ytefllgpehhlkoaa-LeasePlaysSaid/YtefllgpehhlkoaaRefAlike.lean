/-
  alike (tillerlaw18): two states that are one show the same.
-/
import Derived.Test.YtefllgpehhlkoaaRefGrant
import Derived.Test.YtefllgpehhlkoaaTurnsA
namespace Go.Proofs.Ytefllgpehhlkoaa
open Go.RowKit Go.Maps
set_option linter.unusedVariables false

structure Ak (w W : World) (epoch quiet : Int) (m : Option Nat) (v : Value) : Prop where
  s : LBox W w.heap.size epoch quiet m
  x : XBox W (w.heap.size + 1) epoch quiet v
  only : Only w.heap.size w.heap.size w W
  size : w.heap.size + 2 ≤ W.heap.size
theorem Ak.kept {w W W' : World} {epoch quiet : Int} {m : Option Nat} {v : Value} (k : Ak w W epoch quiet m v) (o : Only W.heap.size W.heap.size W W') : Ak w W' epoch quiet m v :=
  have hz := k.size
  ⟨k.s.kept o (by omega) (.inl (by omega)), k.x.kept o (by omega) (.inl (by omega)), k.only.then o (by omega), Nat.le_trans k.size o.size⟩
def AkRel1 (w : World) (epoch quiet now : Int) (m : Option Nat) (v : Value) (es : Trips) (nv jv : Value) (W : World) : Prop :=
  ∃ j : Nat, jv = .int .i64 j ∧ j ≤ es.length ∧ nv = .int .i64 (lasting (es.take j) now).length ∧ Ak w W epoch quiet m v
def AkRel2 (w : World) (epoch quiet : Int) (m : Option Nat) (v : Value) (ls : List Int) (kv : Value) (W : World) : Prop :=
  ∃ k : Nat, kv = .int .i64 k ∧ k ≤ ls.length ∧ Ak w W epoch quiet m v

set_option maxRecDepth 100000 in
set_option maxHeartbeats 2000000 in
theorem alike_any (w : World) (epoch quiet now : Int) (m : Option Nat) (v : Value) (es : Trips) (hm : MapIs tripE w m es) (hv : ReadS hold4 w v es) (hr : Rising es) (hll : es.length ≤ 10000)
    (pa : Option Addr) (pc : Nat) (ls : List Int) (hp : Sl w w.heap.size pa pc ls) (hpl : ls.length ≤ 10000) (hpk : ∀ i, i < ls.length → (Lit.int .i64 (nth ls i)).wf = true) :
    Calls Try.prog 38 #[.agg #[.int .i64 epoch, .int .i64 quiet, .map m], .agg #[.int .i64 epoch, .int .i64 quiet, v], .int .i64 now, .slice pa ls.length pc] w fun e w' => e = .returned (.bool true) ∧ Only w.heap.size w.heap.size w w' := by
  have hO : Hid (Only w.heap.size w.heap.size w w) := Lib.hid (Only.refl _ _ _)
  have HM := Lib.hid hm
  have HV := Lib.hid hv
  have HP := Lib.hid hp
  have HPK := Lib.hid hpk
  have HRI := Lib.hid hr
  obtain ⟨a, cap, rfl, hl1, hl2, h3⟩ := hv
  have H3 := Lib.hid h3
  have hple := hp.le
  clear h3 hm hp hpk hr
  go_enter Try.func38, Try.ntmps38
  go_wp2_with fail
  go_loopw [9, 21] (fun nv jv W => AkRel1 w epoch quiet now m (.slice a es.length cap) es nv jv W) (fun _ jv _ => es.length - (intOf jv).toNat)
  case atStart =>
    refine ⟨0, rfl, Nat.zero_le _, rfl, LBox.of ((low_at _ _ _ (by simp)).trans (top_at _ _ _ rfl)), XBox.of (top_at _ _ _ (by simp)), (hO.out.alloc _).alloc _, by simp⟩
  case round =>
    obtain ⟨j, rfl, hj, rfl, hk⟩ := hrel
    have HK := Lib.hid hk
    have hsz := hk.size
    have s0 := hk.s.c0
    have s1 := hk.s.c1
    have s2 := hk.s.c2
    have x0 := hk.x.c0
    have x1 := hk.x.c1
    have x2 := hk.x.c2
    have HN : Hid ((lasting (es.take j) now).length ≤ 10000) := Lib.hid (by have h1 := lasting_len (es.take j) now; have h2 := List.length_take_le j es; omega)
    clear hk
    by_cases hjl : j < es.length
    · obtain ⟨b, rfl, hb, hc⟩ : ∃ b, a = some ⟨b, 0, none⟩ ∧ b < w.heap.size ∧ ∀ i x, es[i]? = some x → ∀ k, k < 4 → w.cell? ⟨b, i * 4 + k, none⟩ = some (.int .i64 ((hold4.enc x).getD k 0)) := by
        rcases H3.out with h0 | h0
        · rw [h0] at hjl; simp at hjl
        · exact h0
      have hg : es[j]? = some es[j] := List.getElem?_eq_getElem hjl
      have HT : Hid (es.take (j + 1) = es.take j ++ [es[j]]) := Lib.hid (List.take_succ_eq_append_getElem hjl)
      have hcc : ∀ k, k < 4 → wr.cell? ⟨b, j * 4 + k, none⟩ = some (.int .i64 ((hold4.enc es[j]).getD k 0)) := fun k hk => (HK.out.only.cell (by exact hb) (.inl (by exact hb))).trans (hc j _ hg k hk)
      generalize es[j] = y at hcc HT
      obtain ⟨y0, y1, y2, y3⟩ := y
      have p0 : wr.cell? ⟨b, j * 4, none⟩ = some (.int .i64 y0) := hcc 0 (by decide)
      have p1 : wr.cell? ⟨b, j * 4 + 1, none⟩ = some (.int .i64 y1) := hcc 1 (by decide)
      have p2 : wr.cell? ⟨b, j * 4 + 2, none⟩ = some (.int .i64 y2) := hcc 2 (by decide)
      have p3 : wr.cell? ⟨b, j * 4 + 3, none⟩ = some (.int .i64 y3) := hcc 3 (by decide)
      clear hc hcc hg
      have HA := Lib.hid (HK.out.kept ((Only.refl wr.heap.size wr.heap.size wr).alloc (.cells #[.int .i64 y0, .int .i64 y1, .int .i64 y2, .int .i64 y3] 71)))
      by_cases hy3 : y3 ≤ now
      · have hd3 : decide (now < y3) = false := decide_eq_false (by omega)
        have HX : Hid (AkRel1 w epoch quiet now m (.slice (some ⟨b, 0, none⟩) es.length cap) es (.int .i64 (lasting (es.take j) now).length) (.int .i64 ((j : Int) + 1)) (wr.alloc (.cells #[.int .i64 y0, .int .i64 y1, .int .i64 y2, .int .i64 y3] 71))) := Lib.hid ⟨j + 1, by go_num, hjl, by rw [lasting_snoc_no HT.out hy3], HA.out⟩
        clear hy3
        go_wp2_with fail
        go_roundw
        case rel => exact HX.out
        case measure => simp [intOf]; omega
      · have hd3 : decide (now < y3) = true := decide_eq_true (by omega)
        have HX : Hid (AkRel1 w epoch quiet now m (.slice (some ⟨b, 0, none⟩) es.length cap) es (.int .i64 (((lasting (es.take j) now).length : Int) + 1)) (.int .i64 ((j : Int) + 1)) (wr.alloc (.cells #[.int .i64 y0, .int .i64 y1, .int .i64 y2, .int .i64 y3] 71))) := Lib.hid ⟨j + 1, by go_num, hjl, by rw [lasting_snoc_yes HT.out hy3]; simp, HA.out⟩
        clear hy3
        have hn := HN.out
        generalize (lasting (es.take j) now).length = N at *
        go_wp2_with fail
        go_roundw
        case rel => exact HX.out
        case measure => simp [intOf]; omega
    · obtain rfl : j = es.length := by omega
      have hTK : (lasting (es.take es.length) now).length = (lasting es now).length := by rw [List.take_length]
      rw [hTK]
      have HC := Lib.hid (fun V hX => count_any V epoch quiet now m es (mapIs_out HM.out (show Out w V from hX)) (by omega))
      clear hTK HN
      generalize (lasting es now).length = N at *
      go_wp2_with (first
        | (go_at_call 35; have HR := HC.out _ HK.out.only; unfold lval at HR; (with_reducible refine HR.mono ?_); clear HR; rintro e W1 ⟨rfl, ho1⟩; have HK1 := Lib.hid (HK.out.kept ho1); clear ho1 s0 s1 s2 x0 x1 x2)
        | fail)
      go_loopw [53] (fun kv W => AkRel2 w epoch quiet m (.slice a es.length cap) ls kv W) (fun kv _ => ls.length - (intOf kv).toNat)
      case atStart => exact ⟨0, rfl, Nat.zero_le _, HK1.out⟩
      case round =>
        obtain ⟨k, rfl, hk, hA⟩ := hrel
        have HA := Lib.hid hA
        have hsz2 := hA.size
        have s0 := hA.s.c0
        have s1 := hA.s.c1
        have s2 := hA.s.c2
        have x0 := hA.x.c0
        have x1 := hA.x.c1
        have x2 := hA.x.c2
        clear hA
        by_cases hkl : k < ls.length
        · obtain ⟨b, o, rfl, hb, hcell⟩ := HP.out.row.addr (by omega)
          have hc : wr.cell? ⟨b, o + k, none⟩ = some (.int .i64 (nth ls k)) := (HA.out.only.cell (by exact hb) (.inl (by exact hb))).trans (hcell k hkl)
          have HWF := Lib.hid (HPK.out k hkl)
          clear hcell
          generalize nth ls k = pl at *
          cases hw : whoL es now pl with
          | none =>
            have HWW : Hid (whoL es now pl = none) := Lib.hid hw
            have HFN : Hid (findR es now pl = none) := Lib.hid (by rw [findR_who now pl HRI.out, hw]; rfl)
            have HC41 := Lib.hid (fun V hX => who_from (ep := epoch) (qu := quiet) (show Out w V from hX) (S := ⟨epoch, quiet, es⟩) HM.out HWF.out hw)
            have HC56 := Lib.hid (fun V hX => find_any V epoch quiet now pl _ es (HV.out.kept (show Out w V from hX)))
            clear hw
            go_wp2_with (first
              | (go_at_call 41; (with_reducible refine (HC41.out _ HA.out.only).mono ?_); dsimp only [Option.getD, Option.isSome]; rintro e W2 ⟨rfl, hX2, ho2⟩; have HA2 := Lib.hid (HA.out.kept (ho2.alloc (.cells #[.int .i64 0, .int .i64 0, .int .i64 0] 82))); have hz2 := HA2.out.size; have q0 := HA2.out.s.c0; have q1 := HA2.out.s.c1; have q2 := HA2.out.s.c2; have r0 := HA2.out.x.c0; have r1 := HA2.out.x.c1; have r2 := HA2.out.x.c2; have HT3 := Lib.hid (T3.of (top_at W2 (.cells #[.int .i64 0, .int .i64 0, .int .i64 0] 82) _ rfl)); clear hX2 ho2)
              | (go_at_call 56; refine (HC56.out _ HA2.out.only).mono ?_; unfold Found; rw [HFN.out]; dsimp only [Option.getD, Option.isSome, rec4, zrec]; rintro e W3 ⟨rfl, ho3⟩; have HA3 := Lib.hid (HA2.out.kept (ho3.alloc (.cells #[.int .i64 0, .int .i64 0, .int .i64 0, .int .i64 0] 71))); have t3 := (HT3.out.kept (ho3.alloc (.cells #[.int .i64 0, .int .i64 0, .int .i64 0, .int .i64 0] 71)) (by simp) (.inl (by simp))); obtain ⟨t30, t31, t32⟩ := t3; clear ho3)
              | fail)
            go_roundw
            case rel => exact ⟨k + 1, by go_num, hkl, HA3.out⟩
            case measure => simp [intOf]; omega
          | some x =>
            obtain ⟨z0, z1, z2⟩ := x
            have HWW : Hid (whoL es now pl = some (z0, (z1, z2))) := Lib.hid hw
            have HFN : Hid (findR es now pl = some (pl, (z0, (z1, z2)))) := Lib.hid (by rw [findR_who now pl HRI.out, hw]; rfl)
            have HC41 := Lib.hid (fun V hX => who_from (ep := epoch) (qu := quiet) (show Out w V from hX) (S := ⟨epoch, quiet, es⟩) HM.out HWF.out hw)
            have HC56 := Lib.hid (fun V hX => find_any V epoch quiet now pl _ es (HV.out.kept (show Out w V from hX)))
            clear hw
            go_wp2_with (first
              | (go_at_call 41; (with_reducible refine (HC41.out _ HA.out.only).mono ?_); dsimp only [Option.getD, Option.isSome]; rintro e W2 ⟨rfl, hX2, ho2⟩; have HA2 := Lib.hid (HA.out.kept (ho2.alloc (.cells #[.int .i64 z0, .int .i64 z1, .int .i64 z2] 82))); have hz2 := HA2.out.size; have q0 := HA2.out.s.c0; have q1 := HA2.out.s.c1; have q2 := HA2.out.s.c2; have r0 := HA2.out.x.c0; have r1 := HA2.out.x.c1; have r2 := HA2.out.x.c2; have HT3 := Lib.hid (T3.of (top_at W2 (.cells #[.int .i64 z0, .int .i64 z1, .int .i64 z2] 82) _ rfl)); clear hX2 ho2)
              | (go_at_call 56; refine (HC56.out _ HA2.out.only).mono ?_; unfold Found; rw [HFN.out]; dsimp only [Option.getD, Option.isSome, rec4, zrec]; rintro e W3 ⟨rfl, ho3⟩; have HA3 := Lib.hid (HA2.out.kept (ho3.alloc (.cells #[.int .i64 pl, .int .i64 z0, .int .i64 z1, .int .i64 z2] 71))); have t3 := (HT3.out.kept (ho3.alloc (.cells #[.int .i64 pl, .int .i64 z0, .int .i64 z1, .int .i64 z2] 71)) (by simp) (.inl (by simp))); obtain ⟨t30, t31, t32⟩ := t3; clear ho3)
              | fail)
            go_roundw
            case rel => exact ⟨k + 1, by go_num, hkl, HA3.out⟩
            case measure => simp [intOf]; omega
        · obtain rfl : k = ls.length := by omega
          go_wp2_with fail
          go_ret
          exact ⟨rfl, HA.out.only⟩
end Go.Proofs.Ytefllgpehhlkoaa
