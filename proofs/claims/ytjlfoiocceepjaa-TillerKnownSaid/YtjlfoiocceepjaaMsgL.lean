/-
  Plain: a message's numbers in groups of seven bits, written and read.
  Plain: a message's text; when a message is right.
-/
import Derived.Test.YtjlfoiocceepjaaPrW
import Derived.Test.YtjlfoiocceepjaaUn
import Derived.Laws.Bits128
import Derived.Laws.BitsAllLaws
import Derived.Test.YtjlfoiocceepjaaMsg
namespace Go.Proofs.Ytjlfoiocceepjaa
open Go.RowKit Go.Proofs.YtjlfoiocceepjaaW.PrintWords Go.Proofs.YtjlfoiocceepjaaW.PrintLast Go.Proofs.YtjlfoiocceepjaaW.PrintMore
set_option linter.unusedVariables false
set_option linter.unusedSimpArgs false

/-- bytes as whole numbers -/
def ints (l : List UInt8) : List Int := l.map fun b => (b.toNat : Int)
theorem ints_length (l : List UInt8) : (ints l).length = l.length := by simp [ints]
theorem ints_append (a b : List UInt8) : ints (a ++ b) = ints a ++ ints b := by simp [ints]
theorem ints_str (l : List UInt8) : strOfNums (ints l) = str l := by
  unfold strOfNums str ints
  rw [List.map_map]
  have e : ((fun n : Int => UInt8.ofNat n.toNat) ∘ fun b : UInt8 => (b.toNat : Int)) = id := by funext b; simp
  rw [e, List.map_id]
/-- group j of a number -/
def grp (n j : Nat) : List UInt8 := if n / 2 ^ (7 * j) = 0 then [] else [UInt8.ofNat (n / 2 ^ (7 * j) % 128 + 128)]
/-- groups j to 1 -/
def hiL (n : Nat) : Nat → List UInt8
  | 0 => []
  | j + 1 => grp n (j + 1) ++ hiL n j
def endL (n : Nat) : List UInt8 := [UInt8.ofNat (n % 128)]
/-- a number as it is written -/
def putL (n : Nat) : List UInt8 := hiL n 6 ++ endL n

theorem grp_length (n j : Nat) : (grp n j).length ≤ 1 := by unfold grp; split <;> simp
theorem hiL_length (n : Nat) : ∀ j, (hiL n j).length ≤ j
  | 0 => by simp [hiL]
  | j + 1 => by have := hiL_length n j; have := grp_length n (j + 1); simp only [hiL, List.length_append]; omega
theorem putL_length (n : Nat) : (putL n).length ≤ 7 := by have := hiL_length n 6; simp only [putL, List.length_append, endL, List.length_singleton]; omega
theorem putL_pos (n : Nat) : 0 < (putL n).length := by simp [putL, endL]

theorem or_128 (m : Nat) : bits .or .u8 (((m : Nat) : Int) % 256) 128 = ((m % 128 + 128 : Nat) : Int) := by
  have h1 : ((m : Nat) : Int) % 256 = ((m % 256 : Nat) : Int) := by omega
  have h := u8_or_nat (m % 256) 128 (by omega) (by omega)
  rw [h1]
  refine h.trans ?_
  congr 1
  have e : m % 256 = m % 128 ∨ m % 256 = m % 128 + 128 := by omega
  rcases e with e | e
  · rw [e]
    have h2 := Nat.two_pow_add_eq_or_of_lt (i := 7) (b := m % 128) (by omega) 1
    have h7 : 2 ^ 7 * 1 = 128 := rfl
    rw [h7] at h2
    rw [Nat.or_comm]; omega
  · rw [e]
    have h2 := Nat.two_pow_add_eq_or_of_lt (i := 7) (b := m % 128) (by omega) 1
    have h7 : 2 ^ 7 * 1 = 128 := rfl
    rw [h7] at h2
    have h3 : m % 128 + 128 = 128 ||| m % 128 := by omega
    rw [h3, Nat.or_comm (128 ||| m % 128), ← Nat.or_assoc, Nat.or_self]
theorem shr_nat (n j : Nat) (hj : 7 * j ≤ 64) : shr .i64 (n : Int) ((7 * j : Nat) : Int) = ((n / 2 ^ (7 * j) : Nat) : Int) := by
  unfold shr
  have : min ((7 * j : Nat) : Int).toNat IntKind.i64.bits = 7 * j := by
    show min ((7 * j : Nat) : Int).toNat 64 = _
    omega
  rw [this]
  simp
theorem end_int (n : Nat) : ((bits .and .i64 (n : Int) 127) % 256 : Int) = ((n % 128 : Nat) : Int) := by
  rw [i64_and127]; omega
theorem ints_byte (m : Nat) (h : m < 256) : ints [UInt8.ofNat m] = [(m : Int)] := by
  simp [ints]; omega
theorem put_l0 (n : Nat) : ∀ (j : Nat) (l : List UInt8), j ≤ 6 → l.length + j < 100000 → PrW.wire_put.l0 (j + 1) (ints l) (n : Int) ((7 * j : Nat) : Int) = some (ints (l ++ hiL n j ++ endL n))
  | 0, l, _, hl => by
    unfold PrW.wire_put.l0
    rw [if_neg (by omega), if_pos (by rw [ints_length]; omega), end_int]
    rw [show ints (l ++ hiL n 0 ++ endL n) = ints l ++ [((n % 128 : Nat) : Int)] by
      rw [hiL, List.append_nil, ints_append, endL, ints_byte _ (by omega)]]
  | j + 1, l, hj, hl => by
    unfold PrW.wire_put.l0
    have hw : wrap64 (((7 * (j + 1) : Nat) : Int) - 7) = ((7 * j : Nat) : Int) := by
      have e : (((7 * (j + 1) : Nat) : Int) - 7) = ((7 * j : Nat) : Int) := by omega
      rw [e]; unfold wrap64; omega
    rw [if_pos (by omega), if_pos (by omega), shr_nat n (j + 1) (by omega), hw]
    obtain ⟨q, hq⟩ : ∃ q, q = n / 2 ^ (7 * (j + 1)) := ⟨_, rfl⟩
    by_cases h : n / 2 ^ (7 * (j + 1)) = 0
    · have hi : hiL n (j + 1) = hiL n j := by rw [hiL, grp, if_pos h, List.nil_append]
      rw [h]
      rw [if_neg (by omega), put_l0 n j l (by omega) (by omega), hi]
    · have hi : hiL n (j + 1) = UInt8.ofNat (n / 2 ^ (7 * (j + 1)) % 128 + 128) :: hiL n j := by rw [hiL, grp, if_neg h]; rfl
      have e : ints l ++ [bits .or .u8 (((n / 2 ^ (7 * (j + 1)) : Nat) : Int) % 256) 128] = ints (l ++ [UInt8.ofNat (n / 2 ^ (7 * (j + 1)) % 128 + 128)]) := by
        rw [or_128, ints_append, ints_byte _ (by omega)]
      rw [if_pos (by rw [← hq] at h ⊢; omega), if_pos (by rw [ints_length]; omega), e, put_l0 n j _ (by omega) (by simp; omega), hi]
      simp
theorem put_f (n : Nat) (l : List UInt8) (hl : l.length < 90000) : PrW.wire_put.f 7 (ints l) (n : Int) = some (ints (l ++ putL n)) := by
  unfold PrW.wire_put.f
  have := put_l0 n 6 l (by omega) (by omega)
  rw [List.append_assoc] at this
  exact this

/-! ### read -/
def val : Nat → List UInt8 → Nat
  | x, [] => x
  | x, b :: l => val (x * 128 + b.toNat % 128) l
theorem or_low (x b : Nat) (hx : x < 4398046511104) (hb : b < 256) : bits .or .i64 (wrap64 ((x : Int) * 128)) (wrap64 (bits .and .u8 (b : Int) 127)) = ((x * 128 + b % 128 : Nat) : Int) := by
  have h1 : wrap64 ((x : Int) * 128) = ((x * 128 : Nat) : Int) := by unfold wrap64; omega
  have h2 : bits .and .u8 (b : Int) 127 = ((b % 128 : Nat) : Int) := by
    have := u8_and_nat b 127 hb (by omega)
    refine this.trans ?_
    congr 1
    exact Nat.and_two_pow_sub_one_eq_mod b 7
  have h3 : wrap64 ((b % 128 : Nat) : Int) = ((b % 128 : Nat) : Int) := by unfold wrap64; omega
  rw [h1, h2, h3]
  show IntKind.i64.wrap ((BitVec.ofInt 64 ((x * 128 : Nat) : Int) ||| BitVec.ofInt 64 ((b % 128 : Nat) : Int)).toNat : Int) = _
  rw [BitVec.toNat_or, BitVec.ofInt_natCast, BitVec.ofInt_natCast, BitVec.toNat_ofNat, BitVec.toNat_ofNat, Nat.mod_eq_of_lt (by omega), Nat.mod_eq_of_lt (by omega)]
  have h4 := Nat.two_pow_add_eq_or_of_lt (i := 7) (b := b % 128) (by omega) x
  have h5 : x * 128 = 2 ^ 7 * x := by omega
  rw [h5, ← h4]
  have e := IntKind.wrap_i64 ((2 ^ 7 * x + b % 128 : Nat) : Int)
  rw [e]
  omega
theorem bt_list (s : ByteArray) (i : Nat) (c : UInt8) (h : s.data.toList[i]? = some c) : bt s (i : Int) = (c.toNat : Int) := by
  have hi : i < s.data.toList.length := (List.getElem?_eq_some_iff.1 h).1
  have hs : i < s.size := by rw [Array.length_toList] at hi; exact hi
  unfold bt
  rw [dif_pos (show (i : Int).toNat < s.size by omega)]
  have := (List.getElem?_eq_some_iff.1 h).2
  rw [← this]
  simp
  rfl
theorem lt_pow6 {x n : Nat} (h : x < 128 ^ n) (hn : n ≤ 6) : x < 4398046511104 := by
  have h1 : 128 ^ n ≤ 128 ^ 6 := Nat.pow_le_pow_right (by omega) hn
  have h2 : 128 ^ 6 = 4398046511104 := by decide +kernel
  rw [h2] at h1
  exact Nat.lt_of_lt_of_le h h1
theorem j1_end (s : ByteArray) (x p v : Nat) (b : UInt8) (k : Nat) (hb : bt s (p : Int) = (b.toNat : Int)) (h128 : b.toNat < 128) (hp : p < s.size) (hsz : s.size ≤ 1000000) (hv : x * 128 + b.toNat % 128 = v) (hM : v ≤ 1099511627776) (hx : x < 4398046511104) :
    PrW.wire_take.j1 (k + 1) s (x : Int) (p : Int) (s.size : Int) (p : Int) false = some ((v : Int), s.extract (p + 1) s.size, 0) := by
  have h1 : ¬ (false = true) := by simp
  have h2 : (0 : Int) ≤ (p : Int) := by omega
  have h3 : (p : Int) < (s.size : Int) := by omega
  have h4 : (b.toNat : Int) < 128 := by omega
  have ho := or_low x b.toNat hx (by omega)
  rw [hv] at ho
  have h5 : ¬ ((v : Int) > 1099511627776) := by omega
  have hw : wrap64 ((p : Int) + 1) = ((p + 1 : Nat) : Int) := by unfold wrap64; omega
  have h6 : (0 : Int) ≤ ((p + 1 : Nat) : Int) := by omega
  have h7 : ((p + 1 : Nat) : Int) ≤ (s.size : Int) := by omega
  unfold PrW.wire_take.j1
  rw [if_neg h1, if_pos h2, if_pos h3, hb, if_pos h4, ho, if_neg h5, hw, if_pos h6, if_pos h7, Int.toNat_natCast]
theorem take_l0 (s : ByteArray) (hsz : s.size ≤ 1000000) (r : List UInt8) (d : UInt8) (hd : d.toNat < 128) : ∀ (hs pre : List UInt8) (x k : Nat),
    s.data.toList = pre ++ (hs ++ d :: r) → (∀ b ∈ hs, 128 ≤ b.toNat) → pre.length + hs.length ≤ 6 → (pre = [] → hs.head? ≠ some 128) → x < 128 ^ pre.length → val x (hs ++ [d]) ≤ 1099511627776 → 2 * hs.length + 2 ≤ k →
    PrW.wire_take.l0 k s (x : Int) (s.size : Int) (pre.length : Int) = some (((val x (hs ++ [d]) : Nat) : Int), str r, 0) := by
  intro hs
  induction hs with
  | nil =>
    intro pre x k hl _ hp _ hx hv hk
    obtain ⟨k, rfl⟩ : ∃ j, k = j + 2 := ⟨k - 2, by simp at hk; omega⟩
    rw [List.nil_append] at hl
    have hlen : s.size = pre.length + (r.length + 1) := by
      have := congrArg List.length hl
      rw [List.length_append, List.length_cons, Array.length_toList] at this
      exact this
    have hb := bt_list s pre.length d (by rw [hl]; simp)
    have hx2 : x < 4398046511104 := lt_pow6 hx (by simpa using hp)
    have hj : PrW.wire_take.j1 (k + 1) s (x : Int) (pre.length : Int) (s.size : Int) (pre.length : Int) false = some (((val x [d] : Nat) : Int), str r, 0) := by
      rw [j1_end s x pre.length (val x [d]) d k hb hd (by omega) hsz rfl hv hx2]
      have e2 : s.extract (pre.length + 1) s.size = str r := by
        apply str_eq
        have e : s.data.toList.drop (pre.length + 1) = r := by
          rw [hl, ← List.singleton_append, ← List.append_assoc]
          rw [show pre.length + 1 = (pre ++ [d]).length by simp, List.drop_left]
        rw [ext_list, ← e, List.take_of_length_le (by rw [Array.length_toList]; exact Nat.le_refl _)]
      rw [e2]
    have hd8 : ¬ ((d.toNat : Int) = 128) := by omega
    unfold PrW.wire_take.l0
    rw [if_pos (by omega)]
    by_cases h0 : pre.length = 0
    · rw [if_pos (by omega), if_pos (by omega)]
      have hb0 : bt s 0 = (d.toNat : Int) := by rw [h0] at hb; exact hb
      rw [hb0, if_neg hd8, if_neg (by omega)]
      exact hj
    · rw [if_neg (by omega)]
      by_cases h6 : pre.length = 6
      · rw [if_pos (by omega), if_pos (by omega), if_pos (by omega), hb, decide_eq_false (by omega)]
        exact hj
      · rw [if_neg (by omega)]
        exact hj
  | cons b hs ih =>
    intro pre x k hl ha hp hh hx hv hk
    obtain ⟨k, rfl⟩ : ∃ j, k = j + 2 := ⟨k - 2, by simp at hk; omega⟩
    have hb128 : 128 ≤ b.toNat := ha b (by simp)
    have hb256 : b.toNat < 256 := b.toNat_lt
    simp only [List.length_cons] at hp hk
    have hlen : s.size = pre.length + (hs.length + 1 + (r.length + 1)) := by
      have := congrArg List.length hl
      rw [Array.length_toList] at this
      simp only [List.length_append, List.length_cons] at this
      have e : s.data.size = s.size := rfl
      omega
    have hb := bt_list s pre.length b (by rw [hl]; simp)
    have hx2 : x < 4398046511104 := lt_pow6 hx (by omega)
    have hpl : (pre ++ [b]).length = pre.length + 1 := by simp
    have hstep := ih (pre ++ [b]) (x * 128 + b.toNat % 128) k (by rw [hl]; simp) (fun c hc => ha c (List.mem_cons_of_mem _ hc)) (by omega) (fun h => by simp at h)
      (by rw [hpl, Nat.pow_succ]; omega) hv (by omega)
    rw [hpl] at hstep
    have hj : PrW.wire_take.j1 (k + 1) s (x : Int) (pre.length : Int) (s.size : Int) (pre.length : Int) false = some (((val x (b :: hs ++ [d]) : Nat) : Int), str r, 0) := by
      unfold PrW.wire_take.j1
      rw [if_neg (by simp), if_pos (by omega), if_pos (by omega), hb, if_neg (by omega), or_low x b.toNat hx2 hb256]
      have hw : wrap64 ((pre.length : Int) + 1) = ((pre.length + 1 : Nat) : Int) := by unfold wrap64; omega
      rw [hw]
      exact hstep
    unfold PrW.wire_take.l0
    rw [if_pos (by omega)]
    by_cases h0 : pre.length = 0
    · rw [if_pos (by omega), if_pos (by omega)]
      have hb0 : bt s 0 = (b.toNat : Int) := by rw [h0] at hb; exact hb
      have hne : ¬ ((b.toNat : Int) = 128) := fun h => hh (List.length_eq_zero_iff.1 h0) (by
        simp only [List.cons_append, List.head?_cons]
        congr 1
        apply UInt8.toNat_inj.1
        show b.toNat = 128
        omega)
      rw [hb0, if_neg hne, if_neg (by omega)]
      exact hj
    · rw [if_neg (by omega), if_neg (by omega)]
      exact hj
theorem grp_ge (n j : Nat) : ∀ b ∈ grp n j, 128 ≤ b.toNat := by
  intro b hb
  unfold grp at hb
  split at hb
  · cases hb
  · rw [List.mem_singleton] at hb
    subst hb
    rw [UInt8.toNat_ofNat']
    omega
theorem hiL_ge (n : Nat) : ∀ j, ∀ b ∈ hiL n j, 128 ≤ b.toNat
  | 0, b, hb => by cases hb
  | j + 1, b, hb => by
    rw [hiL, List.mem_append] at hb
    rcases hb with hb | hb
    · exact grp_ge n (j + 1) b hb
    · exact hiL_ge n j b hb
theorem val_append : ∀ (x : Nat) (a b : List UInt8), val x (a ++ b) = val (val x a) b
  | _, [], _ => rfl
  | x, c :: a, b => val_append (x * 128 + c.toNat % 128) a b
theorem div_step (n j : Nat) : n / 2 ^ (7 * j) = n / 2 ^ (7 * (j + 1)) * 128 + n / 2 ^ (7 * j) % 128 := by
  have h : n / 2 ^ (7 * (j + 1)) = n / 2 ^ (7 * j) / 128 := by
    rw [Nat.div_div_eq_div_mul, show 7 * (j + 1) = 7 * j + 7 by omega, Nat.pow_add]
  omega
theorem val_grp (n j : Nat) : val (n / 2 ^ (7 * (j + 1))) (grp n j) = n / 2 ^ (7 * j) := by
  have h := div_step n j
  unfold grp
  split
  · rename_i h0
    show n / 2 ^ (7 * (j + 1)) = _
    omega
  · show n / 2 ^ (7 * (j + 1)) * 128 + (UInt8.ofNat (n / 2 ^ (7 * j) % 128 + 128)).toNat % 128 = _
    rw [UInt8.toNat_ofNat']
    omega
theorem val_hi (n : Nat) : ∀ j, val (n / 2 ^ (7 * (j + 1))) (hiL n j) = n / 2 ^ 7
  | 0 => rfl
  | j + 1 => by rw [hiL, val_append, val_grp n (j + 1)]; exact val_hi n j
theorem val_put (n : Nat) (h : n < 562949953421312) : val 0 (putL n) = n := by
  have h1 := val_hi n 6
  have h0 : n / 2 ^ (7 * (6 + 1)) = 0 := Nat.div_eq_of_lt (by omega)
  rw [h0] at h1
  rw [putL, val_append, h1, endL]
  show n / 2 ^ 7 * 128 + (UInt8.ofNat (n % 128)).toNat % 128 = n
  rw [UInt8.toNat_ofNat']
  omega
theorem hiL_head (n : Nat) : ∀ j, n / 2 ^ (7 * (j + 1)) = 0 → (hiL n j).head? ≠ some 128
  | 0, _ => by simp [hiL]
  | j + 1, h => by
    rw [hiL, grp]
    split
    · rename_i h0
      rw [List.nil_append]
      exact hiL_head n j h0
    · rename_i h0
      have hs := div_step n (j + 1)
      rw [List.singleton_append, List.head?_cons]
      intro he
      have := congrArg UInt8.toNat (Option.some.inj he)
      rw [UInt8.toNat_ofNat'] at this
      have e : (128 : UInt8).toNat = 128 := rfl
      omega
theorem take_f (n : Nat) (r : List UInt8) (hn : n ≤ 1099511627776) (hr : r.length ≤ 900000) : PrW.wire_take.f 14 (str (putL n ++ r)) = some ((n : Int), str r, 0) := by
  unfold PrW.wire_take.f
  have hpl := putL_length n
  have hd : (UInt8.ofNat (n % 128)).toNat < 128 := by rw [UInt8.toNat_ofNat']; omega
  have hv := val_put n (by omega)
  have h := take_l0 (str (putL n ++ r)) (by rw [str_size, List.length_append]; omega) r (UInt8.ofNat (n % 128)) hd (hiL n 6) [] 0 14
    (by rw [str_list, putL, endL]; simp) (hiL_ge n 6) (by have := hiL_length n 6; simpa using this) (fun _ => hiL_head n 6 (Nat.div_eq_of_lt (by omega))) (by simp) (by
      have : hiL n 6 ++ [UInt8.ofNat (n % 128)] = putL n := rfl
      rw [this, hv]; exact hn) (by have := hiL_length n 6; omega)
  have e : hiL n 6 ++ [UInt8.ofNat (n % 128)] = putL n := rfl
  rw [e, hv] at h
  exact h
theorem putL_inj {n m : Nat} {a b : List UInt8} (hn : n ≤ 1099511627776) (hm : m ≤ 1099511627776) (ha : a.length ≤ 900000) (hb : b.length ≤ 900000) (h : putL n ++ a = putL m ++ b) : n = m ∧ a = b := by
  have h1 := take_f n a hn ha
  rw [h, take_f m b hm hb] at h1
  simp only [Option.some.injEq, Prod.mk.injEq] at h1
  exact ⟨by omega, (str_inj h1.2.1).symm⟩
end Go.Proofs.Ytjlfoiocceepjaa
namespace Go.Proofs.Ytjlfoiocceepjaa
open Go.RowKit Go.Proofs.YtjlfoiocceepjaaW.PrintWords Go.Proofs.YtjlfoiocceepjaaW.PrintLast Go.Proofs.YtjlfoiocceepjaaW.PrintMore
set_option linter.unusedVariables false
set_option linter.unusedSimpArgs false

/-- the first k numbers -/
def numsL (n : Nat → Int) : Nat → List UInt8
  | 0 => []
  | k + 1 => numsL n k ++ putL (n k).toNat
def toksL (ts : List Int) : List UInt8 := ts.map fun t => UInt8.ofNat t.toNat
/-- a message's text -/
def msgL (n : Nat → Int) (ts : List Int) (s : List UInt8) : List UInt8 := numsL n 10 ++ putL ts.length ++ toksL ts ++ putL s.length ++ s
theorem numsL_length (n : Nat → Int) : ∀ k, (numsL n k).length ≤ 7 * k
  | 0 => by simp [numsL]
  | k + 1 => by have := numsL_length n k; have := putL_length (n k).toNat; simp only [numsL, List.length_append]; omega
theorem toksL_length (ts : List Int) : (toksL ts).length = ts.length := by simp [toksL]
/-- a right message -/
structure Good (n : Nat → Int) (ts : List Int) (sz : Nat) : Prop where
  lo : 1 ≤ n 0
  hi : n 0 ≤ 10
  num : ∀ k, k < 10 → 0 ≤ n k ∧ n k ≤ 1099511627776
  len : ts.length ≤ 128
  tok : ∀ t ∈ ts, 0 ≤ t ∧ t ≤ 255
  sz : sz ≤ 50000
theorem msgL_length {n : Nat → Int} {ts : List Int} {s : List UInt8} (h : Good n ts s.length) : (msgL n ts s).length ≤ 50300 := by
  have h1 := numsL_length n 10
  have h2 := putL_length ts.length
  have h3 := putL_length s.length
  have h4 := h.len
  have h5 := h.sz
  have h6 := toksL_length ts
  simp only [msgL, List.length_append]
  omega
theorem chkN_iff (n : Nat → Int) (r : Int × Int) : ∀ (m k : Nat), (chkN n r m k).2 = 0 → (∀ j, k ≤ j → j < k + m → ¬ badN (n j)) ∧ chkN n r m k = r
  | 0, k, _ => ⟨fun j h1 h2 => by omega, rfl⟩
  | m + 1, k, h => by
    unfold chkN at h ⊢
    split at h
    · simp at h
    · rename_i hb
      obtain ⟨h1, h2⟩ := chkN_iff n r m (k + 1) h
      rw [if_neg hb]
      exact ⟨fun j hj1 hj2 => by
        by_cases e : j = k
        · subst e; exact hb
        · exact h1 j (by omega) (by omega), h2⟩
theorem chkT_iff (r : Int × Int) : ∀ ts : List Int, (chkT r ts).2 = 0 → (∀ t ∈ ts, ¬ badT t) ∧ chkT r ts = r
  | [], _ => ⟨(fun _ h => by cases h), rfl⟩
  | t :: l, h => by
    unfold chkT at h ⊢
    split at h
    · simp at h
    · rename_i hb
      obtain ⟨h1, h2⟩ := chkT_iff r l h
      rw [if_neg hb]
      exact ⟨fun x hx => by
        rcases List.mem_cons.1 hx with rfl | hx
        · exact hb
        · exact h1 x hx, h2⟩
theorem good_of_chk {n : Nat → Int} {ts : List Int} {sz : Nat} (h : (chk n ts sz).2 = 0) : Good n ts sz ∧ chk n ts sz = (0, 0) := by
  unfold chk at h ⊢
  split at h
  · simp at h
  · rename_i h0
    rw [if_neg h0]
    obtain ⟨h1, h2⟩ := chkN_iff _ _ _ _ h
    rw [h2] at h ⊢
    split at h
    · simp at h
    · rename_i h3
      rw [if_neg h3]
      obtain ⟨h4, h5⟩ := chkT_iff _ _ h
      rw [h5] at h ⊢
      split at h
      · simp at h
      · rename_i h6
        rw [if_neg h6]
        refine ⟨⟨by omega, by omega, fun k hk => ?_, by omega, fun t ht => ?_, by omega⟩, rfl⟩
        · have := h1 k (by omega) (by omega)
          unfold badN at this; omega
        · have := h4 t ht
          unfold badT at this; omega
theorem chkN_good (n : Nat → Int) (r : Int × Int) : ∀ (m k : Nat), (∀ j, k ≤ j → j < k + m → ¬ badN (n j)) → chkN n r m k = r
  | 0, _, _ => rfl
  | m + 1, k, h => by
    unfold chkN
    rw [if_neg (h k (by omega) (by omega)), chkN_good n r m (k + 1) (fun j h1 h2 => h j (by omega) (by omega))]
theorem chkT_good (r : Int × Int) : ∀ ts : List Int, (∀ t ∈ ts, ¬ badT t) → chkT r ts = r
  | [], _ => rfl
  | t :: l, h => by
    unfold chkT
    rw [if_neg (h t (by simp)), chkT_good r l (fun x hx => h x (List.mem_cons_of_mem _ hx))]
theorem chk_good {n : Nat → Int} {ts : List Int} {sz : Nat} (h : Good n ts sz) : chk n ts sz = (0, 0) := by
  have h1 := h.lo
  have h2 := h.hi
  have h3 := h.len
  have h4 := h.sz
  unfold chk
  rw [if_neg (by omega), chkN_good _ _ _ _ (fun j _ hj => by have := h.num j (by omega); unfold badN; omega), if_neg (by omega), chkT_good _ _ (fun t ht => by have := h.tok t ht; unfold badT; omega), if_neg (by omega)]
/-! ### rows of bytes -/
abbrev KB : Kd Int := Kd.int .u8
theorem put_any (n : Nat) (hn : n ≤ 1099511627776) (l : List UInt8) (hl : l.length < 90000) (v : Value) (w0 w : World) (hB : Below w0.heap.size w0 w) (ho : KB.R 5 w w0.heap.size All v (ints l)) :
    Calls Try.prog 29 #[v, .int .i64 n] w fun e w' => ∃ v' : Value, e = .returned v' ∧ KB.R 5 w' w0.heap.size All v' (ints (l ++ putL n)) ∧ Below w0.heap.size w0 w' :=
  (PrW.wire_put.calls 7 All v (ints l) n _ w0 w hB ho (put_f n l hl)).mono fun e w' ⟨v', he, hR, hb, _⟩ => ⟨v', he, Kd.R_mono hR (fun _ _ => trivial), hb⟩
theorem take_any (n : Nat) (r : List UInt8) (hn : n ≤ 1099511627776) (hr : r.length ≤ 900000) (w : World) :
    Calls Try.prog 33 #[.string (str (putL n ++ r))] w fun e w' => e = .returned (.tuple #[.int .i64 n, .string (str r), .int .i64 0]) ∧ Below w.heap.size w w' :=
  (PrW.wire_take.calls 14 _ _ _ _ w (take_f n r hn hr)).mono fun e w' h => ⟨h.1, h.2.below⟩
theorem KB_text {w : World} {B : Nat} {v : Value} {l : List UInt8} (h : KB.R 5 w B All v (ints l)) : (convert 45 9 v).run Try.prog w = .ok (.string (str l)) w := by
  obtain ⟨A, c, rfl⟩ := Kd.R_slice h
  rw [← ints_str]
  exact Kd.C_string Try.underlying45 Try.underlying5 Try.underlying9 (Kd.R_reads' h).2.2
end Go.Proofs.Ytjlfoiocceepjaa
