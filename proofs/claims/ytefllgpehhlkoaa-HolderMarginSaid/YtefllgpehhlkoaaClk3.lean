/-
  Clocks: Play; the rows that the laws make (Few), what a row counts.
-/
import Derived.Test.YtefllgpehhlkoaaClk2
import Derived.Test.YtefllgpehhlkoaaTick
namespace Go.Proofs.Ytefllgpehhlkoaa
open Go.RowKit

theorem RowAt.addr {w : World} {top : Nat} {a : Option Addr} {l : List Int} (h : RowAt w top a l) (h0 : 0 < l.length) : ∃ b o, a = some ⟨b, o, none⟩ ∧ b < top ∧ ∀ i, i < l.length → w.cell? ⟨b, o + i, none⟩ = some (.int .i64 (nth l i)) := by
  rcases h with rfl | h
  · simp at h0
  · exact h

/-- A new slice that holds l; nothing that was has turned. -/
def NewRow (w : World) (l : List Int) (e : Ending) (w' : World) : Prop := ∃ a' cap', e = .returned (.slice a' l.length cap') ∧ Sl w' w'.heap.size a' cap' l ∧ Only w.heap.size w.heap.size w w'
theorem few_any (w : World) (cap : Nat) (a : Option Addr) (l : List Int) (h : Sl w w.heap.size a cap l) (m : Nat) (hm : m ≤ 1000) (_hcap : cap ≤ 9223372036854775807) :
    Calls Try.prog 15 #[.slice a l.length cap, .int .i64 m] w (NewRow w (l.take m)) := by
  have hb0 := build0
  have hown := Own.empty w w.heap.size (Nat.le_refl _)
  have hle := h.le
  have HS : Hid (∀ k, Sl (w.alloc (.cells #[] 3)) w.heap.size a cap (l.take k)) := fun k => (h.take k).kept ((Only.refl w.heap.size w.heap.size w).alloc _) (Nat.le_refl _) (Nat.le_refl _)
  have HF : Hid (∀ (v' : Value) (w' : World) (l' : List Int), Own w' w.heap.size v' l' → (w.alloc (.cells #[] 3)).grownBy w' (some w.heap.size) → NewRow w l' (.returned v') w') := by
    intro v' w' l' ho hg
    obtain ⟨a', cap', rfl, hs⟩ := ho.row
    refine ⟨a', cap', rfl, hs, ((Only.refl w.heap.size w.heap.size w).alloc _).fresh (Only.of_grown hg)⟩
  by_cases hlt : m < l.length
  · obtain ⟨b, o, rfl, _, _⟩ := h.row.addr (by omega)
    have hmc : (m : Int) ≤ (cap : Int) := by omega
    have HT : Hid ((l.take m).length = m) := by show _ = _; simp; omega
    clear h
    go_enter Try.func15, Try.ntmps15
    go_wp2_with (first
      | (at_builtin; (refine wpList_append_ints _ rfl _ _ rfl w.heap.size _ [] (l.take m) rfl hown (some ⟨b, o, none⟩) cap w.heap.size ?_ (HS.out m) ?_ (by simp) ?_); exact congrArg (fun k => Value.slice (some ⟨b, o, none⟩) k cap) HT.out.symm; exact (by rw [HT.out]; simp; omega); intro v' w' hown' hg))
    go_ret
    exact HF.out v' w' _ hown' hg
  · have ht : l.take m = l := List.take_of_length_le (by omega)
    have HT : Hid (l.take m = l) := ht
    have hll : l.length ≤ 1000 := by omega
    have hnl : ¬ ((m : Int) < (l.length : Int)) := by omega
    clear h ht
    go_enter Try.func15, Try.ntmps15
    go_wp2_with (first
      | (at_builtin; (refine wpList_append_ints _ rfl _ _ rfl w.heap.size _ [] l rfl hown a cap w.heap.size rfl ?_ ?_ (by simp) ?_); exact (by have := HS.out m; rw [HT.out] at this; exact this); exact (by simp; omega); intro v' w' hown' hg))
    go_ret
    rw [HT.out]
    exact HF.out v' w' _ hown' hg

theorem play_small (n : Int) (w : World) (v : Value) (h : n < 1) : Calls Try.prog 16 #[.int .i64 n, v] w fun e w' => e = .returned (.tuple #[.pointer none, .int .i64 1]) ∧ w = w' := by
  go_enter Try.func16, Try.ntmps16
  go_wp2_with (go_at_call 17; refine (new_small n _ h).mono ?_; rintro e w' ⟨rfl, rfl⟩)
  go_ret2
  exact ⟨rfl, rfl⟩
theorem play_big (n : Int) (w : World) (v : Value) (h : 8 < n) : Calls Try.prog 16 #[.int .i64 n, v] w fun e w' => e = .returned (.tuple #[.pointer none, .int .i64 2]) ∧ w = w' := by
  go_enter Try.func16, Try.ntmps16
  go_wp2_with (go_at_call 17; refine (new_big n _ h).mono ?_; rintro e w' ⟨rfl, rfl⟩)
  go_ret2
  exact ⟨rfl, rfl⟩

def PlayRel (w : World) (p n : Nat) (l : List Int) (kv : Value) (wr : World) : Prop :=
  ∃ k : Nat, k ≤ l.length ∧ kv = .int .i64 k ∧ Clk wr w.heap.size (w.heap.size + 4) p n (St.play n (l.take k)) ∧ Only w.heap.size w.heap.size w wr

theorem play_succ (n : Nat) (l : List Int) (k : Nat) (h : k < l.length) : St.play n (l.take (k + 1)) = (St.play n (l.take k)).tick n (nth l k) := by
  rw [take_nth h]; exact run_snoc _ _ _ _

set_option maxHeartbeats 400000 in
theorem play_some (w : World) (cap : Nat) (a : Option Addr) (l : List Int) (h : Sl w w.heap.size a cap l) (n : Nat) (h1 : 1 ≤ n) (h8 : n ≤ 8) (hl : l.length ≤ 1000) :
    Calls Try.prog 16 #[.int .i64 n, .slice a l.length cap] w fun e w' => ∃ p, e = .returned (.tuple #[.pointer (some ⟨p, 0, none⟩), .int .i64 0]) ∧
      Clk w' w.heap.size (w.heap.size + 4) p n (St.play n l) ∧ Only w.heap.size w.heap.size w w' := by
  have HR := Lib.hid h.row
  clear h
  go_enter Try.func16, Try.ntmps16
  go_wp2_with (go_at_call 17; refine (new_some n _ h1 h8).mono ?_; rintro e w1 ⟨p, rfl, hclk, ho⟩)
  have HC := Lib.hid hclk
  have HO := Lib.hid ho
  clear hclk ho
  go_loopw [9, 20] (fun _ kv wr => PlayRel w p n l kv wr) (fun _ kv _ => l.length - (intOf kv).toNat)
  case atStart => exact ⟨0, Nat.zero_le _, rfl, HC.out, HO.out⟩
  case round =>
    obtain ⟨k, hk, rfl, hcr, hor⟩ := hrel
    clear HC HO
    by_cases hlt : k < l.length
    · obtain ⟨b, o, rfl, hb, hcell⟩ := HR.out.addr (by omega)
      have hc : wr.cell? ⟨b, o + k, none⟩ = some (.int .i64 (nth l k)) := by
        rw [hor.cell (by exact hb) (by simp only; omega)]; exact hcell k hlt
      have hbd := Bd_mono (Bd_play n (l.take k)) (show (l.take k).length ≤ 1000 by simp; omega)
      have HT := Lib.hid (tick_any wr _ _ p n 1000 _ hcr hbd (by omega) (nth l k) h8)
      have HO' := Lib.hid hor
      have HB := Lib.hid (play_succ n l k hlt)
      clear hcell hbd hcr hor
      go_wp2_with (go_at_call 19; refine HT.out.mono ?_; rintro e w2 ⟨rfl, hc2, ho2⟩)
      go_roundw
      case rel => exact ⟨k + 1, by omega, by go_num, by rw [HB.out]; exact hc2, HO'.out.fresh ho2⟩
      case measure => simp [intOf]; omega
    · obtain rfl : k = l.length := by omega
      have HC : Hid (Clk wr w.heap.size (w.heap.size + 4) p n (St.play n l)) := by rw [List.take_length] at hcr; exact hcr
      have HO' := Lib.hid hor
      clear hcr hor
      go_wp2_with fail
      go_ret2
      exact ⟨p, rfl, HC.out, HO'.out⟩
end Go.Proofs.Ytefllgpehhlkoaa
