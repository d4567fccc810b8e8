/-
  What Unpack answers, in lists.
-/
import Derived.Test.YtjlfoiocceepjaaDoorUnp
namespace Go.Proofs.YtjlfoiocceepjaaDoor
open Go.RowKit Go.Proofs.YtjlfoiocceepjaaDoorW.PrintWords Go.Proofs.YtjlfoiocceepjaaDoorW.PrintLast Go.Proofs.YtjlfoiocceepjaaDoorW.PrintMore
set_option linter.unusedVariables false
set_option linter.unusedSimpArgs false

/-- the text, the error's number (0: none), its place -/
def unpackL (l : List UInt8) : List UInt8 × Int × Int :=
  if l.length < 10 then ([], 11, l.length)
  else if l.getD 0 0 ≠ 84 then ([], 3, 0)
  else if l.getD 1 0 ≠ 1 then ([], 14, 1)
  else if 60000 < (num (l.drop 2)).toNat then ([], 2, 2)
  else if l.length < (num (l.drop 2)).toNat + 10 then ([], 11, l.length)
  else if (num (l.drop 2)).toNat + 10 < l.length then ([], 6, ((num (l.drop 2)).toNat : Int) + 10)
  else if num (l.drop (l.length - 4)) ≠ csum (l.take (l.length - 4)) then ([], 12, (l.length : Int) - 4)
  else ((l.take (l.length - 4)).drop 6, 0, -1)
def errV (why place : Int) : Value := if why = 0 then .nilIface else fault place why

theorem num_take (l : List UInt8) (n : Nat) (h : 4 ≤ n) : num (l.take n) = num l := by
  unfold num
  have e : ∀ i, i < 4 → (l.take n).getD i 0 = l.getD i 0 := fun i hi => by
    simp [List.getD_eq_getElem?_getD, List.getElem?_take, show i < n by omega]
  rw [e 0 (by omega), e 1 (by omega), e 2 (by omega), e 3 (by omega)]
theorem ext_list (s : ByteArray) (a b : Nat) : (s.extract a b).data.toList = (s.data.toList.take b).drop a := by
  rw [List.drop_take]; simp

theorem unpack_any (l : List UInt8) (w : World) (hl : l.length ≤ 140737488351232) :
    Calls Tryd.prog 16 #[.string (str l)] w fun e w' => e = .returned (.tuple #[.string (str (unpackL l).1), errV (unpackL l).2.1 (unpackL l).2.2]) ∧ Below w.heap.size w w' := by
  obtain ⟨s, hs⟩ : ∃ s, s = str l := ⟨_, rfl⟩
  have hsl : s.data.toList = l := by rw [hs, str_list]
  have hsz : s.size = l.length := by rw [hs, str_size]
  rw [← hs]
  by_cases h10 : l.length < 10
  · have e : unpackL l = ([], 11, (l.length : Int)) := by unfold unpackL; rw [if_pos h10]
    rw [e]
    have := un_short s w (by omega)
    rw [hsz] at this
    exact this
  have hg : ∀ i (h : i < s.size), (s[i]'h).toNat = (l.getD i 0).toNat := by
    intro i h
    have h' : i < l.length := by omega
    subst hsl
    simp [List.getD_eq_getElem?_getD, List.getElem?_eq_getElem h']
    rfl
  have h2 : Two s (l.getD 0 0).toNat (l.getD 1 0).toNat := ⟨by omega, fun h => by rw [hg 0 h], fun h => by rw [hg 1 h]⟩
  have hu : ∀ (x : UInt8) (n : Nat), n < 256 → (x.toNat = n ↔ x = UInt8.ofNat n) := by
    intro x n hn
    constructor
    · intro h; rw [← h]; simp
    · intro h; rw [h]; simp; omega
  by_cases hx : ¬ l.getD 0 0 = 84
  · have e : unpackL l = ([], 3, 0) := by unfold unpackL; rw [if_neg h10, if_pos hx]
    rw [e]
    exact un_mark s w _ _ h2 (by omega) (fun h => hx ((hu _ 84 (by omega)).1 h))
  replace hx := Decidable.not_not.1 hx
  have hx' : (l.getD 0 0).toNat = 84 := by rw [hx]; rfl
  by_cases hy : ¬ l.getD 1 0 = 1
  · have e : unpackL l = ([], 14, 1) := by unfold unpackL; rw [if_neg h10, if_neg (fun h => h hx), if_pos hy]
    rw [e]
    exact un_old s w _ _ h2 (by omega) hx' (fun h => hy ((hu _ 1 (by omega)).1 h))
  replace hy := Decidable.not_not.1 hy
  have hy' : (l.getD 1 0).toNat = 1 := by rw [hy]; rfl
  have hn : (num (s.extract 2 6).data.toList).toNat = (num (l.drop 2)).toNat := by
    rw [ext_list, hsl, List.drop_take, num_take _ _ (by omega)]
  by_cases hb : 60000 < (num (l.drop 2)).toNat
  · have e : unpackL l = ([], 2, 2) := by unfold unpackL; rw [if_neg h10, if_neg (fun h => h hx), if_neg (fun h => h hy), if_pos hb]
    rw [e]
    exact un_big s w _ _ h2 (by omega) hx' hy' _ hn hb
  by_cases hc : l.length < (num (l.drop 2)).toNat + 10
  · have e : unpackL l = ([], 11, (l.length : Int)) := by unfold unpackL; rw [if_neg h10, if_neg (fun h => h hx), if_neg (fun h => h hy), if_neg hb, if_pos hc]
    rw [e]
    have := un_end s w _ _ h2 (by omega) hx' hy' _ hn (by omega) (by omega)
    rw [hsz] at this
    exact this
  by_cases hd : (num (l.drop 2)).toNat + 10 < l.length
  · have e : unpackL l = ([], 6, ((num (l.drop 2)).toNat : Int) + 10) := by unfold unpackL; rw [if_neg h10, if_neg (fun h => h hx), if_neg (fun h => h hy), if_neg hb, if_neg hc, if_pos hd]
    rw [e]
    exact un_len s w _ _ h2 (by omega) hx' hy' _ hn (by omega) (by omega)
  have hm : (num (s.extract (s.size - 4) s.size).data.toList).toNat = (num (l.drop (l.length - 4))).toNat := by
    rw [ext_list, hsl, hsz, List.take_of_length_le (Nat.le_refl _)]
  have hk : (csum (s.extract 0 (s.size - 4)).data.toList).toNat = (csum (l.take (l.length - 4))).toNat := by
    rw [ext_list, hsl, hsz]; rfl
  by_cases hq : ¬ num (l.drop (l.length - 4)) = csum (l.take (l.length - 4))
  · have e : unpackL l = ([], 12, (l.length : Int) - 4) := by unfold unpackL; rw [if_neg h10, if_neg (fun h => h hx), if_neg (fun h => h hy), if_neg hb, if_neg hc, if_neg hd, if_pos hq]
    rw [e]
    have := un_sum s w _ _ h2 (by omega) hx' hy' _ hn (by omega) (by omega) (by omega) _ _ hm hk (fun h => hq (BitVec.eq_of_toNat_eq h))
    rw [hsz] at this
    exact this
  · replace hq := Decidable.not_not.1 hq
    have e : unpackL l = ((l.take (l.length - 4)).drop 6, 0, -1) := by unfold unpackL; rw [if_neg h10, if_neg (fun h => h hx), if_neg (fun h => h hy), if_neg hb, if_neg hc, if_neg hd, if_neg (fun h => h hq)]
    rw [e]
    have := un_ok s w _ _ h2 (by omega) hx' hy' _ hn (by omega) (by omega) (by omega) _ _ hm hk (by rw [hq])
    have e2 : s.extract 6 (s.size - 4) = str ((l.take (l.length - 4)).drop 6) := by
      apply str_eq; rw [ext_list, hsl, hsz]
    rw [e2] at this
    exact this
end Go.Proofs.YtjlfoiocceepjaaDoor
