/-
  Plain: what the printed functions of TillerLinear come to: a matrix times a column is, row by row, the dot product. No Go in sight.
-/
import Derived.Test.YtghboikgoomloaaLin4
namespace Go.Proofs.Ytghboikgoomloaa.PTillerLinear
open Go.RowKit Go.Proofs.YtghboikgoomloaaW.PrintWords Go.Proofs.YtghboikgoomloaaW.PrintLast Go.Proofs.YtghboikgoomloaaW.PrintMore

theorem wrap_in (x : Int) (h0 : -9223372036854775808 ≤ x) (h1 : x < 9223372036854775808) : wrap64 x = x := by unfold wrap64; omega

def growv (x y : Int) : Int := (vec_Grow.f 1 x y).getD 0
theorem grow_some (k : Nat) (x y : Int) : vec_Grow.f (k + 1) x y = some (growv x y) := by
  unfold growv vec_Grow.f
  simp only [vec_Grow.j0]
  by_cases h1 : y > 0
  · rw [if_pos h1]
    by_cases h2 : decide (x > (wrap64 (9223372036854775807 - y))) = true
    · rw [if_pos h2]; rfl
    · rw [if_neg h2]
      by_cases h3 : y < 0
      · omega
      · rw [if_neg h3]; rfl
  · rw [if_neg h1]
    by_cases h3 : y < 0
    · simp only [if_pos h3, Bool.false_eq_true, if_false]
      by_cases h4 : x < (wrap64 ((-9223372036854775807) - y))
      · rw [if_pos h4]; rfl
      · rw [if_neg h4]; rfl
    · simp only [if_neg h3, Bool.false_eq_true, if_false]; rfl
def roundv (x : Int) : Int := (fix_Round.f 1 x 65536).getD 0
theorem getD_ite {c : Prop} [Decidable c] {a b : Option Int} {x y : Int} (ha : a = some x) (hb : b = some y) : (if c then a else b) = some ((if c then a else b).getD 0) := by
  by_cases h : c
  · rw [if_pos h, ha]; rfl
  · rw [if_neg h, hb]; rfl
theorem roundj_some (k : Nat) (a b c : Int) (d : Bool) : fix_Round.j0 (k + 1) a b c d = some ((fix_Round.j0 1 a b c d).getD 0) := by
  simp only [fix_Round.j0]
  by_cases h1 : d = true
  · rw [if_pos h1]; rfl
  · rw [if_neg h1]
    by_cases h2 : c < 0
    · rw [if_pos h2]
      exact getD_ite rfl rfl
    · rw [if_neg h2]; rfl
theorem round_some (k : Nat) (x : Int) : fix_Round.f (k + 1) x 65536 = some (roundv x) := by
  unfold roundv fix_Round.f
  have h0 : ¬ ((65536 : Int) = 0) := by decide
  rw [if_neg h0, if_neg h0]
  by_cases h : Int.tmod x 65536 ≥ wrap64 (65536 - Int.tmod x 65536)
  · rw [if_pos h, if_pos h]; exact roundj_some _ _ _ _ _
  · rw [if_neg h, if_neg h]; exact roundj_some _ _ _ _ _
def satv (x : Int) : Int := mx (-2147483647) (mn x 2147483647)

/-- the sum of the products p i, p (i+1), .. -/
def dloop (p : Nat → Int) : Nat → Nat → Int → Int
  | 0, _, s => s
  | n + 1, i, s => dloop p n (i + 1) (growv s (p i))
def prod (a b : List Int) (i : Nat) : Int := wrap64 (wrap64 (rd a i) * wrap64 (rd b i))
theorem prod_comm (a b : List Int) : prod a b = prod b a := by funext i; unfold prod; rw [Int.mul_comm]
theorem prod_is (a b : List Int) (i : Nat) : wrap64 (wrap64 (rd a (i : Int)) * wrap64 (rd b (i : Int))) = prod a b i := by unfold prod; rfl
theorem dloop_succ (p : Nat → Int) (n i : Nat) (s : Int) : dloop p (n + 1) i s = dloop p n (i + 1) (growv s (p i)) := rfl
def dotv (a b : List Int) : Int := satv (roundv (dloop (prod a b) a.length 0 0))
theorem dotv_comm (a b : List Int) (h : a.length = b.length) : dotv a b = dotv b a := by unfold dotv; rw [prod_comm, h]

theorem grow_at {k : Nat} (h : 1 ≤ k) (x y : Int) : vec_Grow.f k x y = some (growv x y) := by
  obtain ⟨j, rfl⟩ : ∃ m, k = m + 1 := ⟨k - 1, by omega⟩
  exact grow_some j x y
theorem round_at {k : Nat} (h : 1 ≤ k) (x : Int) : fix_Round.f k x 65536 = some (roundv x) := by
  obtain ⟨j, rfl⟩ : ∃ m, k = m + 1 := ⟨k - 1, by omega⟩
  exact round_some j x
theorem dot_l0 (a b : List Int) (hab : a.length = b.length) (ha : a.length ≤ 4096) : ∀ (n i : Nat) (s : Int) (k : Nat), i + n = a.length → n + 2 ≤ k → vec_Dot.l0 k b s a (a.length : Int) (i : Int) = some (satv (roundv (dloop (prod a b) n i s)), 0) := by
  intro n
  induction n with
  | zero =>
    intro i s k hi hk
    obtain ⟨k, rfl⟩ : ∃ m, k = m + 1 := ⟨k - 1, by omega⟩
    simp only [vec_Dot.l0]
    rw [if_neg (by omega), round_at (by omega)]
    simp only [Option.bind_some, fix_Sat.f, satv, dloop]
  | succ n ih =>
    intro i s k hi hk
    obtain ⟨k, rfl⟩ : ∃ m, k = m + 1 := ⟨k - 1, by omega⟩
    simp only [vec_Dot.l0]
    rw [if_pos (by omega), if_pos (by omega), if_pos (by omega), if_pos (by omega), grow_at (by omega)]
    simp only [Option.bind_some]
    have e : wrap64 ((i : Int) + 1) = ((i + 1 : Nat) : Int) := by rw [wrap_in _ (by omega) (by omega)]; omega
    rw [e, prod_is, ih (i + 1) _ k (by omega) (by omega), dloop_succ]
theorem dot_some (a b : List Int) (hab : a.length = b.length) (ha : a.length ≤ 4096) (k : Nat) (hk : a.length + 2 ≤ k) : vec_Dot.f k a b = some (dotv a b, 0) := by
  unfold vec_Dot.f vec_fit.f
  obtain ⟨k, rfl⟩ : ∃ m, k = m + 1 := ⟨k - 1, by omega⟩
  have e : decide ((b.length : Int) > 4096) = false := decide_eq_false (by omega)
  rw [if_neg (by omega), e]
  simp only [vec_fit.j0, Bool.false_eq_true, if_false]
  rw [if_pos (by omega)]
  simp only [Option.bind_some, if_true]
  exact dot_l0 a b hab ha a.length 0 0 (k + 1) (by omega) hk

/-- the error of a matrix -/
def chk (R C : Int) (l : List Int) : Int := if R < 1 ∨ C < 1 then 1 else if R > 128 ∨ C > 128 then 2 else if (l.length : Int) = wrap64 (R * C) then 0 else 6
theorem check_some (R C : Int) (l : List Int) (k : Nat) (hk : 2 ≤ k) : mat_Check.f k R C l = some (chk R C l) := by
  obtain ⟨k, rfl⟩ : ∃ m, k = m + 1 + 1 := ⟨k - 2, by omega⟩
  unfold mat_Check.f chk
  by_cases h1 : R < 1
  · rw [if_pos h1, if_pos (show R < 1 ∨ C < 1 from .inl h1)]; simp only [mat_Check.j0, if_true]
  · rw [if_neg h1]
    by_cases h2 : C < 1
    · rw [decide_eq_true h2, if_pos (show R < 1 ∨ C < 1 from .inr h2)]; simp only [mat_Check.j0, if_true]
    · rw [decide_eq_false h2, if_neg (show ¬ (R < 1 ∨ C < 1) by omega)]
      simp only [mat_Check.j0, Bool.false_eq_true, if_false]
      by_cases h3 : R > 128
      · rw [if_pos h3, if_pos (show R > 128 ∨ C > 128 from .inl h3)]; simp only [mat_Check.j1, if_true]
      · rw [if_neg h3]
        by_cases h4 : C > 128
        · rw [decide_eq_true h4, if_pos (show R > 128 ∨ C > 128 from .inr h4)]; simp only [mat_Check.j1, if_true]
        · rw [decide_eq_false h4, if_neg (show ¬ (R > 128 ∨ C > 128) by omega)]
          simp only [mat_Check.j1, Bool.false_eq_true, if_false]
          by_cases h5 : (l.length : Int) = wrap64 (R * C)
          · rw [if_pos h5, if_pos h5]
          · rw [if_neg h5, if_neg h5]
theorem chk_zero {R C : Int} {l : List Int} (h : chk R C l = 0) : ∃ r c : Nat, R = r ∧ C = c ∧ 1 ≤ r ∧ r ≤ 128 ∧ 1 ≤ c ∧ c ≤ 128 ∧ l.length = r * c := by
  unfold chk at h
  by_cases h1 : R < 1 ∨ C < 1
  · rw [if_pos h1] at h; omega
  · rw [if_neg h1] at h
    by_cases h2 : R > 128 ∨ C > 128
    · rw [if_pos h2] at h; omega
    · rw [if_neg h2] at h
      by_cases h3 : (l.length : Int) = wrap64 (R * C)
      · obtain ⟨r, rfl⟩ := Int.eq_ofNat_of_zero_le (show 0 ≤ R by omega)
        obtain ⟨c, rfl⟩ := Int.eq_ofNat_of_zero_le (show 0 ≤ C by omega)
        refine ⟨r, c, rfl, rfl, by omega, by omega, by omega, by omega, ?_⟩
        have hb : r * c ≤ 128 * 128 := Nat.mul_le_mul (by omega) (by omega)
        have e : (r : Int) * (c : Int) = ((r * c : Nat) : Int) := by rw [Int.natCast_mul]
        rw [e, wrap_in _ (by omega) (by omega)] at h3
        omega
      · rw [if_neg h3] at h; omega

/-- row i of a matrix with c columns -/
def rowOf (l : List Int) (c i : Nat) : List Int := (l.take ((i + 1) * c)).drop (i * c)
theorem rowOf_length {l : List Int} {r c i : Nat} (h : l.length = r * c) (hi : i < r) : (rowOf l c i).length = c := by
  unfold rowOf
  have h1 : (i + 1) * c ≤ r * c := Nat.mul_le_mul_right _ hi
  have h2 : (i + 1) * c = i * c + c := by rw [Nat.add_mul, Nat.one_mul]
  rw [List.length_drop, List.length_take]
  omega
theorem rowOf_one (v : List Int) : rowOf v v.length 0 = v := by
  unfold rowOf; simp
/-- a row's bounds, as the code computes them -/
theorem row_lo {i r c : Nat} (hr : r ≤ 128) (hc : c ≤ 128) (hi : i < r) : wrap64 ((i : Int) * (c : Int)) = ((i * c : Nat) : Int) := by
  have hb : i * c ≤ 128 * 128 := Nat.mul_le_mul (by omega) (by omega)
  rw [← Int.natCast_mul]
  exact wrap_in _ (by omega) (by omega)
theorem row_hi {i r c : Nat} (hr : r ≤ 128) (hc : c ≤ 128) (hi : i < r) : wrap64 (wrap64 ((i : Int) + 1) * (c : Int)) = (((i + 1) * c : Nat) : Int) := by
  have hb : (i + 1) * c ≤ 128 * 128 := Nat.mul_le_mul (by omega) (by omega)
  have e : wrap64 ((i : Int) + 1) = ((i + 1 : Nat) : Int) := by rw [wrap_in _ (by omega) (by omega)]; omega
  rw [e, ← Int.natCast_mul]
  exact wrap_in _ (by omega) (by omega)
theorem wrap_succ (i : Nat) (h : i < 1000000) : wrap64 ((i : Int) + 1) = ((i + 1 : Nat) : Int) := by rw [wrap_in _ (by omega) (by omega)]; omega

/-- what a matrix makes of a column, from row i on, n rows -/
def outs (l v : List Int) (c : Nat) : Nat → Nat → List Int
  | 0, _ => []
  | n + 1, i => dotv (rowOf l c i) v :: outs l v c n (i + 1)
theorem outs_length (l v : List Int) (c : Nat) : ∀ n i, (outs l v c n i).length = n
  | 0, _ => rfl
  | n + 1, i => by simp [outs, outs_length l v c n]
theorem outs_get (l v : List Int) (c : Nat) : ∀ n i j, j < n → rd (outs l v c n i) (j : Int) = dotv (rowOf l c (i + j)) v
  | 0, _, j, h => by omega
  | n + 1, i, 0, _ => by simp [outs, rd]
  | n + 1, i, j + 1, h => by
    have := outs_get l v c n (i + 1) j (by omega)
    have e : i + 1 + j = i + (j + 1) := by omega
    rw [e] at this
    rw [← this]
    simp [outs, rd]
theorem apply_l0 (l v : List Int) (r c : Nat) (hr : r ≤ 128) (hc : c ≤ 128) (hl : l.length = r * c) (hv : v.length = c) : ∀ (n i : Nat) (acc : List Int) (k : Nat), i + n = r → acc.length + n ≤ 200 → n + c + 3 ≤ k → mat_Apply.l0 k v acc (r : Int) (i : Int) (r : Int) (c : Int) l = some (acc ++ outs l v c n i, 0) := by
  intro n
  induction n with
  | zero =>
    intro i acc k hi ha hk
    obtain ⟨k, rfl⟩ : ∃ m, k = m + 1 := ⟨k - 1, by omega⟩
    simp only [mat_Apply.l0]
    rw [if_neg (by omega)]
    simp [outs]
  | succ n ih =>
    intro i acc k hi ha hk
    obtain ⟨k, rfl⟩ : ∃ m, k = m + 1 := ⟨k - 1, by omega⟩
    have h1 : (i + 1) * c ≤ r * c := Nat.mul_le_mul_right _ (by omega)
    have h2 : (i + 1) * c = i * c + c := by rw [Nat.add_mul, Nat.one_mul]
    simp only [mat_Apply.l0]
    rw [if_pos (by omega), row_lo hr hc (by omega), row_hi hr hc (by omega), if_pos (by omega), if_pos (by omega), if_pos (by omega)]
    simp only [Int.toNat_natCast]
    have hd := dot_some (rowOf l c i) v (by rw [rowOf_length hl (by omega), hv]) (by rw [rowOf_length hl (by omega)]; omega) k (by rw [rowOf_length hl (by omega)]; omega)
    unfold rowOf at hd
    rw [hd]
    simp only [Option.bind_some]
    rw [if_pos (by omega), wrap_succ i (by omega), ih (i + 1) _ k (by omega) (by simp; omega) (by omega)]
    simp [outs, rowOf]
theorem apply_some (l v : List Int) (R C : Int) (r c : Nat) (eR : R = r) (eC : C = c) (hk0 : chk R C l = 0) (hr : r ≤ 128) (hc : c ≤ 128) (hl : l.length = r * c) (hv : v.length = c) (k : Nat) (hk : r + c + 3 ≤ k) : mat_Apply.f k R C l v = some (outs l v c r 0, 0) := by
  unfold mat_Apply.f
  rw [check_some _ _ _ k (by omega), hk0]
  subst eR; subst eC
  simp only [Option.bind_some, if_true]
  rw [if_pos (by omega)]
  have := apply_l0 l v r c hr hc hl hv r 0 [] k (by omega) (by simp; omega) hk
  simpa using this
theorem apply_bad (l v : List Int) (R C : Int) (h : chk R C l ≠ 0 ∨ (v.length : Int) ≠ C) (k : Nat) (hk : 2 ≤ k) : ∃ e, e ≠ 0 ∧ mat_Apply.f k R C l v = some ([], e) := by
  unfold mat_Apply.f
  rw [check_some _ _ _ k hk]
  simp only [Option.bind_some]
  by_cases h1 : chk R C l = 0
  · rw [if_pos h1]
    have h2 : (v.length : Int) ≠ C := by rcases h with h | h; exact absurd h1 h; exact h
    exact ⟨6, by decide, by rw [if_neg h2]⟩
  · exact ⟨_, h1, by rw [if_neg h1]⟩

/-- a column, turned, is one row -/
theorem turn_l1 (v : List Int) (hv : v.length ≤ 128) : ∀ (n i : Nat) (k : Nat), i + n = v.length → n + 2 ≤ k →
    mat_Turn.l1 k 0 1 0 (v.length : Int) (i : Int) (v.length : Int) 1 v 1 (v.length : Int) (v.take i) = some (1, (v.length : Int), v, 0) := by
  intro n
  induction n with
  | zero =>
    intro i k hi hk
    obtain ⟨k, rfl⟩ : ∃ m, k = m + 1 + 1 := ⟨k - 2, by omega⟩
    simp only [mat_Turn.l1]
    rw [if_neg (by omega), wrap_in (0 + 1) (by omega) (by omega)]
    simp only [mat_Turn.l0]
    rw [if_neg (by omega), List.take_of_length_le (by omega)]
  | succ n ih =>
    intro i k hi hk
    obtain ⟨k, rfl⟩ : ∃ m, k = m + 1 := ⟨k - 1, by omega⟩
    have e : wrap64 (wrap64 ((i : Int) * 1) + 0) = (i : Int) := by rw [Int.mul_one, wrap_in (i : Int) (by omega) (by omega), Int.add_zero, wrap_in _ (by omega) (by omega)]
    simp only [mat_Turn.l1]
    rw [if_pos (by omega), e, if_pos (by omega), if_pos (by omega), if_pos (by rw [List.length_take]; omega), wrap_succ i (by omega)]
    have e2 : v.take i ++ [rd v (i : Int)] = v.take (i + 1) := by
      rw [List.take_succ_eq_append_getElem (by omega)]
      simp [rd, show i < v.length by omega]
    rw [e2]
    exact ih (i + 1) k (by omega) (by omega)
theorem col_chk (v : List Int) (h1 : 1 ≤ v.length) (h2 : v.length ≤ 128) : chk (v.length : Int) 1 v = 0 := by
  unfold chk
  rw [if_neg (by omega), if_neg (by omega), Int.mul_one, wrap_in _ (by omega) (by omega), if_pos rfl]
theorem row_chk (v : List Int) (h1 : 1 ≤ v.length) (h2 : v.length ≤ 128) : chk 1 (v.length : Int) v = 0 := by
  unfold chk
  rw [if_neg (by omega), if_neg (by omega), Int.one_mul, wrap_in _ (by omega) (by omega), if_pos rfl]
theorem turn_some (v : List Int) (h1 : 1 ≤ v.length) (h2 : v.length ≤ 128) (k : Nat) (hk : v.length + 3 ≤ k) : mat_Turn.f k (v.length : Int) 1 v = some (1, (v.length : Int), v, 0) := by
  unfold mat_Turn.f
  rw [check_some _ _ _ k (by omega), col_chk v h1 h2]
  simp only [Option.bind_some, if_true]
  obtain ⟨k, rfl⟩ : ∃ m, k = m + 1 := ⟨k - 1, by omega⟩
  simp only [mat_Turn.l0]
  rw [if_pos (by omega)]
  have := turn_l1 v h2 v.length 0 k (by omega) (by omega)
  simpa using this
theorem times_l0 (l v : List Int) (r c : Nat) (hr : r ≤ 128) (hc : c ≤ 128) (hc1 : 1 ≤ c) (hl : l.length = r * c) (hv : v.length = c) : ∀ (n i : Nat) (acc : List Int) (k : Nat), i + n = r → acc.length + n ≤ 200 → n + c + 6 ≤ k →
    mat_Times.l0 k (r : Int) (i : Int) (r : Int) (c : Int) l 1 (v.length : Int) v (r : Int) 1 acc = some ((r : Int), 1, acc ++ outs l v c n i, 0) := by
  intro n
  induction n with
  | zero =>
    intro i acc k hi ha hk
    obtain ⟨k, rfl⟩ : ∃ m, k = m + 1 := ⟨k - 1, by omega⟩
    simp only [mat_Times.l0]
    rw [if_neg (by omega)]
    simp [outs]
  | succ n ih =>
    intro i acc k hi ha hk
    obtain ⟨k, rfl⟩ : ∃ m, k = m + 1 := ⟨k - 1, by omega⟩
    have h1 : (i + 1) * c ≤ r * c := Nat.mul_le_mul_right _ (by omega)
    have h2 : (i + 1) * c = i * c + c := by rw [Nat.add_mul, Nat.one_mul]
    simp only [mat_Times.l0]
    rw [if_pos (by omega), row_lo hr hc (by omega), row_hi hr hc (by omega), if_pos (by omega), if_pos (by omega), if_pos (by omega)]
    simp only [Int.toNat_natCast]
    have hrow : (rowOf l c i).length = c := rowOf_length hl (by omega)
    have ha2 := apply_some v (rowOf l c i) 1 (v.length : Int) 1 v.length rfl rfl (row_chk v (by omega) (by omega)) (by omega) (by omega) (by omega) (by omega) k (by omega)
    have e3 : outs v (rowOf l c i) v.length 1 0 = [dotv (rowOf l c i) v] := by
      simp only [outs]
      rw [rowOf_one, dotv_comm _ _ (by omega)]
    rw [e3] at ha2
    unfold rowOf at ha2
    rw [ha2]
    simp only [Option.bind_some]
    rw [if_pos (by simp; omega), wrap_succ i (by omega), ih (i + 1) _ k (by omega) (by simp; omega) (by omega)]
    simp [outs, rowOf]
theorem times_some (l v : List Int) (R C : Int) (r c : Nat) (eR : R = r) (eC : C = c) (hk0 : chk R C l = 0) (hr : r ≤ 128) (hc : c ≤ 128) (hc1 : 1 ≤ c) (hl : l.length = r * c) (hv : v.length = c) (k : Nat) (hk : r + c + 6 ≤ k) :
    mat_Times.f k R C l (v.length : Int) 1 v = some (R, 1, outs l v c r 0, 0) := by
  unfold mat_Times.f
  rw [check_some _ _ _ k (by omega), hk0]
  simp only [Option.bind_some, if_true]
  rw [turn_some v (by omega) (by omega) k (by omega)]
  simp only [Option.bind_some, if_true]
  subst eR; subst eC
  rw [if_pos (by omega)]
  have := times_l0 l v r c hr hc hc1 hl hv r 0 [] k (by omega) (by simp; omega) hk
  simpa using this
theorem dot_first : vec_Dot.f 10 [65536, 32768] [65536, 65536] = some (98304, 0) := by decide +kernel
end Go.Proofs.Ytghboikgoomloaa.PTillerLinear
