/-
  The document's lease (tillerref18): Find, within.
-/
import Derived.Test.YtefllgpehhlkoaaLeaseQ
namespace Go.Proofs.Ytefllgpehhlkoaa
open Go.RowKit Go.Maps
set_option linter.unusedVariables false

/-- a slice value that reads as l, its row from a block's head on -/
def ReadS {α : Type} (L : Lay α) (w : World) (v : Value) (l : List α) : Prop :=
  ∃ a cap, v = .slice a l.length cap ∧ l.length ≤ cap ∧ cap ≤ 9223372036854775807 ∧ (l = [] ∨ ∃ b, a = some ⟨b, 0, none⟩ ∧ b < w.heap.size ∧ ∀ i x, l[i]? = some x → ∀ j, j < L.k → w.cell? ⟨b, i * L.k + j, none⟩ = some (.int .i64 ((L.enc x).getD j 0)))
theorem OwnS.reads {α : Type} {L : Lay α} {w : World} {base : Nat} {v : Value} {l : List α} (h : OwnS L w base v l) : ReadS L w v l := by
  obtain ⟨a, cap, rfl, h1, h2⟩ := h.fits
  refine ⟨a, cap, rfl, h1, h2, ?_⟩
  cases l with
  | nil => exact .inl rfl
  | cons x r =>
    right
    obtain ⟨g, rfl, _, hg, _⟩ := h.addr (i := 0) (x := x) rfl
    refine ⟨g, rfl, hg, fun i y hy j hj => ?_⟩
    obtain ⟨g', e, _, _, hc⟩ := h.addr hy
    cases e
    exact hc j hj
theorem ReadS.kept {α : Type} {L : Lay α} {w w' : World} {v : Value} {l : List α} (h : ReadS L w v l) (o : Only w.heap.size w.heap.size w w') : ReadS L w' v l := by
  obtain ⟨a, cap, rfl, h1, h2, h3⟩ := h
  refine ⟨a, cap, rfl, h1, h2, ?_⟩
  rcases h3 with h3 | ⟨b, rfl, hb, hc⟩
  · exact .inl h3
  · exact .inr ⟨b, rfl, Nat.lt_of_lt_of_le hb o.size, fun i x hx j hj => by rw [o.cell (by exact hb) (.inl (by exact hb))]; exact hc i x hx j hj⟩

/-- the document's Find -/
def findR (l : Trips) (now place : Int) : Option Rec4 := l.find? fun p => p.1 == place && decide (now < p.2.2.2)
theorem findR_who (now place : Int) : ∀ {l : Trips}, Rising l → findR l now place = (whoL l now place).map fun x => (place, x)
  | [], _ => rfl
  | p :: r, h => by
    have hr := List.pairwise_cons.1 h
    have ih := findR_who now place hr.2
    unfold findR whoL at ih ⊢
    rw [List.find?_cons, mget_cons]
    by_cases hk : p.1 = place
    · rw [if_pos hk]
      by_cases hl : now < p.2.2.2
      · have : ¬ p.2.2.2 ≤ now := by omega
        simp only [hk, beq_self_eq_true, hl, decide_true, Bool.and_self]
        rw [if_neg this]
        simp [← hk]
      · have h2 : p.2.2.2 ≤ now := by omega
        have hn : ∀ q ∈ r, (q.1 == place && decide (now < q.2.2.2)) = false := fun q hq => by
          have := hr.1 q hq
          rw [beq_eq_false_iff_ne.2 (by omega)]; rfl
        simp only [hl, decide_false, Bool.and_false]
        rw [if_pos h2]
        rw [List.find?_eq_none.2 (fun q hq => by rw [hn q hq]; simp)]
        rfl
    · rw [if_neg hk, beq_eq_false_iff_ne.2 hk]
      simp only [Bool.false_and]
      exact ih
theorem findR_take_none {l : Trips} {now place : Int} {j : Nat} {y : Rec4} (h : findR (l.take j) now place = none) (ht : l.take (j + 1) = l.take j ++ [y]) (hy : ¬ (y.1 = place ∧ now < y.2.2.2)) : findR (l.take (j + 1)) now place = none := by
  unfold findR at h ⊢
  rw [ht, List.find?_append, h]
  have : (y.1 == place && decide (now < y.2.2.2)) = false := by
    by_cases h1 : y.1 = place
    · have h2 : ¬ now < y.2.2.2 := fun h2 => hy ⟨h1, h2⟩
      simp [h2]
    · rw [beq_eq_false_iff_ne.2 h1]; rfl
  simp [this]
theorem findR_take_some {l : Trips} {now place : Int} {j : Nat} {y : Rec4} (h : findR (l.take j) now place = none) (ht : l.take (j + 1) = l.take j ++ [y]) (hy : y.1 = place ∧ now < y.2.2.2) : findR l now place = some y := by
  unfold findR at h ⊢
  rw [← List.take_append_drop (j + 1) l, List.find?_append, ht, List.find?_append, h]
  simp [hy.1, hy.2]

/-- a record's value -/
def rec4 (p : Rec4) : Value := .agg #[.int .i64 p.1, .int .i64 p.2.1, .int .i64 p.2.2.1, .int .i64 p.2.2.2]
def zrec : Rec4 := (0, (0, 0, 0))
/-- four ints in a block of one's own -/
structure T4 (w : World) (b : Nat) (p : Rec4) : Prop where
  c0 : w.cell? ⟨b, 0, none⟩ = some (.int .i64 p.1)
  c1 : w.cell? ⟨b, 1, none⟩ = some (.int .i64 p.2.1)
  c2 : w.cell? ⟨b, 2, none⟩ = some (.int .i64 p.2.2.1)
  c3 : w.cell? ⟨b, 3, none⟩ = some (.int .i64 p.2.2.2)
  fr : ∀ i, w.frozen? ⟨b, i, none⟩ = false
theorem T4.of {w : World} {b : Nat} {p : Rec4} {t : TypeId} (h : w.heap[b]? = some (.cells #[.int .i64 p.1, .int .i64 p.2.1, .int .i64 p.2.2.1, .int .i64 p.2.2.2] t)) : T4 w b p := by
  constructor <;> first | (intro i; simp [World.frozen?, h]) | simp [World.cell?, h]
theorem T4.kept {w w' : World} {b lo hi : Nat} {p : Rec4} (h : T4 w b p) (o : Only lo hi w w') (hb : b < w.heap.size) (hs : b < lo ∨ hi ≤ b) : T4 w' b p :=
  ⟨by rw [o.cell (by exact hb) (by exact hs)]; exact h.c0, by rw [o.cell (by exact hb) (by exact hs)]; exact h.c1, by rw [o.cell (by exact hb) (by exact hs)]; exact h.c2, by rw [o.cell (by exact hb) (by exact hs)]; exact h.c3, fun i => by rw [o.frozen (by exact hb) (by exact hs)]; exact h.fr i⟩
def World.set4 (w : World) (b : Nat) (p : Rec4) : World := (((w.setCell ⟨b, 0, none⟩ (.int .i64 p.1)).setCell ⟨b, 1, none⟩ (.int .i64 p.2.1)).setCell ⟨b, 2, none⟩ (.int .i64 p.2.2.1)).setCell ⟨b, 3, none⟩ (.int .i64 p.2.2.2)
theorem T4.set {w : World} {b : Nat} {p q : Rec4} (h : T4 w b p) : T4 (World.set4 w b q) b q ∧ Only b (b + 1) w (World.set4 w b q) := by
  have far : ∀ (W : World) (i j : Nat) (v : Value), i ≠ j → (W.setCell ⟨b, i, none⟩ v).cell? ⟨b, j, none⟩ = W.cell? ⟨b, j, none⟩ := fun W i j v hij => World.cell?_setCell_other _ _ _ _ (fun e => hij (congrArg Addr.off e))
  unfold World.set4
  refine ⟨⟨?_, ?_, ?_, ?_, fun i => ?_⟩, ((((Only.refl _ _ w).setCell (.inr ⟨by simp, by simp⟩) _).setCell (.inr ⟨by simp, by simp⟩) _).setCell (.inr ⟨by simp, by simp⟩) _).setCell (.inr ⟨by simp, by simp⟩) _⟩
  · rw [far _ _ _ _ (by decide), far _ _ _ _ (by decide), far _ _ _ _ (by decide)]; exact World.cell?_setCell_same _ _ _ h.c0
  · rw [far _ _ _ _ (by decide), far _ _ _ _ (by decide)]; exact World.cell?_setCell_same _ _ _ (by rw [far _ _ _ _ (by decide)]; exact h.c1)
  · rw [far _ _ _ _ (by decide)]; exact World.cell?_setCell_same _ _ _ (by rw [far _ _ _ _ (by decide), far _ _ _ _ (by decide)]; exact h.c2)
  · exact World.cell?_setCell_same _ _ _ (by rw [far _ _ _ _ (by decide), far _ _ _ _ (by decide), far _ _ _ _ (by decide)]; exact h.c3)
  · rw [World.frozen?_setCell, World.frozen?_setCell, World.frozen?_setCell, World.frozen?_setCell]; exact h.fr i

/-- what Find leaves -/
def Found (w : World) (o : Option Rec4) (e : Ending) (w' : World) : Prop := e = .returned (.tuple #[rec4 (o.getD zrec), .bool o.isSome]) ∧ Only w.heap.size w.heap.size w w'

def FiRel (w : World) (l : Trips) (now place : Int) (jv : Value) (W : World) : Prop :=
  ∃ j : Nat, jv = .int .i64 j ∧ j ≤ l.length ∧ findR (l.take j) now place = none ∧ T4 W (w.heap.size + 1) zrec ∧ Only w.heap.size w.heap.size w W ∧ w.heap.size + 2 ≤ W.heap.size

set_option maxRecDepth 100000 in
set_option maxHeartbeats 1000000 in
theorem find_any (w : World) (epoch quiet now place : Int) (v : Value) (l : Trips) (h : ReadS hold4 w v l) :
    Calls Try.prog 56 #[.agg #[.int .i64 epoch, .int .i64 quiet, v], .int .i64 now, .int .i64 place] w (Found w (findR l now place)) := by
  have hO : Hid (Only w.heap.size w.heap.size w w) := Lib.hid (Only.refl _ _ _)
  obtain ⟨a, cap, rfl, hl1, hl2, h3⟩ := h
  have H3 := Lib.hid h3
  clear h3
  go_enter Try.func56, Try.ntmps56
  go_wp2_with fail
  go_loopw [13] (fun jv W => FiRel w l now place jv W) (fun jv _ => l.length - (intOf jv).toNat)
  case atStart =>
    have h4 : T4 ((w.alloc (.cells #[.int .i64 epoch, .int .i64 quiet, .slice a l.length cap] 59)).alloc (.cells #[.int .i64 0, .int .i64 0, .int .i64 0, .int .i64 0] 71)) (w.heap.size + 1) zrec := T4.of (top_at _ _ _ (by simp))
    exact ⟨0, rfl, Nat.zero_le _, rfl, h4, (hO.out.alloc _).alloc _, by simp⟩
  case round =>
    obtain ⟨j, rfl, hj, hf, h4, ho, hsz⟩ := hrel
    have HF := Lib.hid hf
    have H4 := Lib.hid h4
    have HO := Lib.hid ho
    have z0 := h4.c0
    have z1 := h4.c1
    have z2 := h4.c2
    have z3 := h4.c3
    have f0 := h4.fr 0
    have f1 := h4.fr 1
    have f2 := h4.fr 2
    have f3 := h4.fr 3
    dsimp only [zrec] at z0 z1 z2 z3
    clear hf h4
    by_cases hjl : j < l.length
    · obtain ⟨b, rfl, hb, hc⟩ : ∃ b, a = some ⟨b, 0, none⟩ ∧ b < w.heap.size ∧ ∀ i x, l[i]? = some x → ∀ k, k < 4 → w.cell? ⟨b, i * 4 + k, none⟩ = some (.int .i64 ((hold4.enc x).getD k 0)) := by
        rcases H3.out with h0 | h0
        · rw [h0] at hjl; simp at hjl
        · exact h0
      have hg : l[j]? = some l[j] := List.getElem?_eq_getElem hjl
      have HT : Hid (l.take (j + 1) = l.take j ++ [l[j]]) := Lib.hid (List.take_succ_eq_append_getElem hjl)
      have hcc : ∀ k, k < 4 → wr.cell? ⟨b, j * 4 + k, none⟩ = some (.int .i64 ((hold4.enc l[j]).getD k 0)) := fun k hk => (ho.cell (by exact hb) (.inl (by exact hb))).trans (hc j _ hg k hk)
      generalize l[j] = y at hcc HT
      obtain ⟨y0, y1, y2, y3⟩ := y
      have p0 : wr.cell? ⟨b, j * 4, none⟩ = some (.int .i64 y0) := hcc 0 (by decide)
      have p1 : wr.cell? ⟨b, j * 4 + 1, none⟩ = some (.int .i64 y1) := hcc 1 (by decide)
      have p2 : wr.cell? ⟨b, j * 4 + 2, none⟩ = some (.int .i64 y2) := hcc 2 (by decide)
      have p3 : wr.cell? ⟨b, j * 4 + 3, none⟩ = some (.int .i64 y3) := hcc 3 (by decide)
      clear hc hcc hg ho
      have HA := Lib.hid (H4.out.kept ((Only.refl wr.heap.size wr.heap.size wr).alloc (.cells #[.int .i64 y0, .int .i64 y1, .int .i64 y2, .int .i64 y3] 71)) (by omega) (.inl (by omega)))
      have HOA := Lib.hid (HO.out.alloc (.cells #[.int .i64 y0, .int .i64 y1, .int .i64 y2, .int .i64 y3] 71))
      by_cases hy : y0 = place ∧ now < y3
      · have HY := Lib.hid hy
        have hy1 : (y0 == place) = true := beq_iff_eq.2 hy.1
        have hy2 : decide (now < y3) = true := decide_eq_true hy.2
        clear hy
        have x0 := HA.out.c0
        have x1 := HA.out.c1
        have x2 := HA.out.c2
        have x3 := HA.out.c3
        have g0 := HA.out.fr 0
        have g1 := HA.out.fr 1
        have g2 := HA.out.fr 2
        have g3 := HA.out.fr 3
        dsimp only [zrec] at x0 x1 x2 x3
        go_wp2_with fail
        have hS := HA.out.set (q := (y0, (y1, y2, y3)))
        unfold World.set4 at hS
        obtain ⟨⟨k0, k1, k2, k3, _⟩, hSO⟩ := hS
        refine bodyPost_ret (v := .tuple #[rec4 (y0, (y1, y2, y3)), .bool true]) (by simp [results, Try.results56, go_sem, rec4, k0, k1, k2, k3]) rfl ?_
        rw [findR_take_some HF.out HT.out HY.out]
        exact ⟨rfl, HOA.out.fresh (hSO.mono (by omega) (Nat.le_refl _))⟩
      · have HY := Lib.hid hy
        clear hy
        have HX : Hid (FiRel w l now place (.int .i64 ((j : Int) + 1)) (wr.alloc (.cells #[.int .i64 y0, .int .i64 y1, .int .i64 y2, .int .i64 y3] 71))) := Lib.hid ⟨j + 1, by go_num, hjl, findR_take_none HF.out HT.out HY.out, HA.out, HOA.out, by simp; omega⟩
        by_cases hy1 : y0 = place
        · have hy2 : decide (now < y3) = false := decide_eq_false (fun hc => HY.out ⟨hy1, hc⟩)
          have hy3 : (y0 == place) = true := beq_iff_eq.2 hy1
          clear hy1
          go_wp2_with fail
          go_roundw
          case rel => exact HX.out
          case measure => simp [intOf]; omega
        · have hy3 : (y0 == place) = false := beq_eq_false_iff_ne.2 hy1
          clear hy1
          go_wp2_with fail
          go_roundw
          case rel => exact HX.out
          case measure => simp [intOf]; omega
    · obtain rfl : j = l.length := by omega
      go_wp2_with fail
      have hS := H4.out.set (q := zrec)
      unfold World.set4 at hS
      obtain ⟨⟨k0, k1, k2, k3, _⟩, hSO⟩ := hS
      dsimp only [zrec] at k0 k1 k2 k3 hSO
      have hnone : findR l now place = none := by have := HF.out; rw [List.take_length] at this; exact this
      refine bodyPost_ret (v := .tuple #[rec4 zrec, .bool false]) (by simp [results, Try.results56, go_sem, rec4, zrec, k0, k1, k2, k3]) rfl ?_
      rw [hnone]
      exact ⟨rfl, HO.out.fresh (hSO.mono (by omega) (Nat.le_refl _))⟩
end Go.Proofs.Ytefllgpehhlkoaa
