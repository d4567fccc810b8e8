/-
  What the document's Unpack answers, in lists.
-/
import Derived.Test.YtjlfoiocceepjaaDoorRPack
namespace Go.Proofs.YtjlfoiocceepjaaDoor
open Go.RowKit Go.Proofs.YtjlfoiocceepjaaDoorW.PrintWords Go.Proofs.YtjlfoiocceepjaaDoorW.PrintLast Go.Proofs.YtjlfoiocceepjaaDoorW.PrintMore
set_option linter.unusedVariables false
set_option linter.unusedSimpArgs false

theorem runpack_any (l : List UInt8) (w : World) (hl : l.length ≤ 140737488351232) :
    Calls Tryd.prog 17 #[.string (str l)] w fun e w' => e = .returned (.tuple #[.string (str (unpackL l).1), .int .i64 (unpackL l).2.1, .int .i64 (unpackL l).2.2]) ∧ Below w.heap.size w w' := by
  obtain ⟨s, hs⟩ : ∃ s, s = str l := ⟨_, rfl⟩
  have hsl : s.data.toList = l := by rw [hs, str_list]
  have hsz : s.size = l.length := by rw [hs, str_size]
  rw [← hs]
  by_cases h10 : l.length < 10
  · have e : unpackL l = ([], 11, (l.length : Int)) := by unfold unpackL; rw [if_pos h10]
    rw [e]
    have := run_short s w (by omega)
    rw [hsz] at this
    exact this
  have hg : ∀ i (h : i < s.size), (s[i]'h).toNat = (l.getD i 0).toNat := by
    intro i h
    have h' : i < l.length := by omega
    subst hsl
    simp [List.getD_eq_getElem?_getD, List.getElem?_eq_getElem h']
    rfl
  have h2 : Two s (l.getD 0 0).toNat (l.getD 1 0).toNat := ⟨by omega, fun h => by rw [hg 0 h], fun h => by rw [hg 1 h]⟩
  have hu : ∀ (x : UInt8) (n : Nat), n < 256 → (x.toNat = n ↔ x = UInt8.ofNat n) := by
    intro x n hn
    constructor
    · intro h; rw [← h]; simp
    · intro h; rw [h]; simp; omega
  by_cases hx : ¬ l.getD 0 0 = 84
  · have e : unpackL l = ([], 3, 0) := by unfold unpackL; rw [if_neg h10, if_pos hx]
    rw [e]
    exact run_mark s w _ _ h2 (by omega) (fun h => hx ((hu _ 84 (by omega)).1 h))
  replace hx := Decidable.not_not.1 hx
  have hx' : (l.getD 0 0).toNat = 84 := by rw [hx]; rfl
  by_cases hy : ¬ l.getD 1 0 = 1
  · have e : unpackL l = ([], 14, 1) := by unfold unpackL; rw [if_neg h10, if_neg (fun h => h hx), if_pos hy]
    rw [e]
    exact run_old s w _ _ h2 (by omega) hx' (fun h => hy ((hu _ 1 (by omega)).1 h))
  replace hy := Decidable.not_not.1 hy
  have hy' : (l.getD 1 0).toNat = 1 := by rw [hy]; rfl
  have hn : (num (s.extract 2 6).data.toList).toNat = (num (l.drop 2)).toNat := by
    rw [ext_list, hsl, List.drop_take, num_take _ _ (by omega)]
  by_cases hb : 60000 < (num (l.drop 2)).toNat
  · have e : unpackL l = ([], 2, 2) := by unfold unpackL; rw [if_neg h10, if_neg (fun h => h hx), if_neg (fun h => h hy), if_pos hb]
    rw [e]
    exact run_big s w _ _ h2 (by omega) hx' hy' _ hn hb
  by_cases hc : l.length < (num (l.drop 2)).toNat + 10
  · have e : unpackL l = ([], 11, (l.length : Int)) := by unfold unpackL; rw [if_neg h10, if_neg (fun h => h hx), if_neg (fun h => h hy), if_neg hb, if_pos hc]
    rw [e]
    have := run_end s w _ _ h2 (by omega) hx' hy' _ hn (by omega) (by omega)
    rw [hsz] at this
    exact this
  by_cases hd : (num (l.drop 2)).toNat + 10 < l.length
  · have e : unpackL l = ([], 6, ((num (l.drop 2)).toNat : Int) + 10) := by unfold unpackL; rw [if_neg h10, if_neg (fun h => h hx), if_neg (fun h => h hy), if_neg hb, if_neg hc, if_pos hd]
    rw [e]
    exact run_len s w _ _ h2 (by omega) hx' hy' _ hn (by omega) (by omega)
  have hml : l.length - 4 = (num (l.drop 2)).toNat + 6 := by omega
  have hqs : s.extract 6 (l.length - 4) = str ((l.take (l.length - 4)).drop 6) := by
    apply str_eq; rw [ext_list, hsl]
  have hpk := pack_iff l hx hy (by omega) (by omega)
  have hss : s = str l := hs
  by_cases hq : ¬ num (l.drop (l.length - 4)) = csum (l.take (l.length - 4))
  · have e : unpackL l = ([], 12, (l.length : Int) - 4) := by unfold unpackL; rw [if_neg h10, if_neg (fun h => h hx), if_neg (fun h => h hy), if_neg hb, if_neg hc, if_neg hd, if_pos hq]
    rw [e]
    have := run_sum s w _ _ h2 (by omega) hx' hy' _ hn (by omega) (by omega) (by omega) (l.length - 4) hml (str ((l.take (l.length - 4)).drop 6)) (str (packL ((l.take (l.length - 4)).drop 6))) hqs.symm (by rw [str_list]) (fun h => hq (hpk.1 (str_inj (h.trans hss))))
    have e2 : ((l.length - 4 : Nat) : Int) = (l.length : Int) - 4 := by omega
    rw [e2] at this
    exact this
  · replace hq := Decidable.not_not.1 hq
    have e : unpackL l = ((l.take (l.length - 4)).drop 6, 0, -1) := by unfold unpackL; rw [if_neg h10, if_neg (fun h => h hx), if_neg (fun h => h hy), if_neg hb, if_neg hc, if_neg hd, if_neg (fun h => h hq)]
    rw [e]
    exact run_ok s w _ _ h2 (by omega) hx' hy' _ hn (by omega) (by omega) (by omega) (l.length - 4) hml (str ((l.take (l.length - 4)).drop 6)) (str (packL ((l.take (l.length - 4)).drop 6))) hqs.symm (by rw [str_list]) (by rw [hss, hpk.2 hq])
theorem unpackL_zero (l : List UInt8) : (unpackL l).2.1 = 0 → (unpackL l).2.2 = -1 := by
  unfold unpackL
  repeat' split
  all_goals (intro h; first | rfl | exact absurd h (by simp))
end Go.Proofs.YtjlfoiocceepjaaDoor
