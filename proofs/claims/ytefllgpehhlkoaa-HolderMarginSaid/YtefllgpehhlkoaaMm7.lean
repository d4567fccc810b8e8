/-
  HolderMargin: what holds behind every move, in plain words; Next.
  What an argument is: a row of moves.
  HolderMargin, walked.
-/
import Derived.Test.YtefllgpehhlkoaaMm6
import Derived.Test.YtefllgpehhlkoaaOpens
namespace Go.Proofs.Ytefllgpehhlkoaa.Mar
open Go.RowKit Go.Maps Go.Proofs.YtefllgpehhlkoaaW.PrintWords Go.Proofs.YtefllgpehhlkoaaW.PrintLast
set_option linter.unusedVariables false
set_option linter.unusedSimpArgs false

/-- how much there is, behind K moves -/
structure Pl (K : Nat) (x : MW) : Prop where
  bd : x.c.Bd K
  way : x.way.length ≤ 200
  wok : ∀ mm ∈ x.way, (1 ≤ mm.holder ∧ mm.holder ≤ 3) ∧ (0 ≤ mm.place ∧ mm.place < 2)
  s : x.s.hs.length ≤ K
  w : ∀ j, (x.hs j).wants.length ≤ K
  h : ∀ j, (x.hs j).has.length ≤ K
theorem Pl.mono {K K' : Nat} {x : MW} (h : Pl K x) (hK : K ≤ K') : Pl K' x := ⟨Bd_mono h.bd hK, h.way, h.wok, Nat.le_trans h.s hK, fun j => Nat.le_trans (h.w j) hK, fun j => Nat.le_trans (h.h j) hK⟩
theorem Pl.zero : Pl 0 mw0 := ⟨Bd_zero, Nat.zero_le _, fun _ h => (by cases h), Nat.zero_le _, fun _ => Nat.zero_le _, fun _ => Nat.zero_le _⟩
theorem lasting_len (es : Trips) (now : Int) : (lasting es now).length ≤ es.length := List.length_filter_le _ _
theorem grantL_len (s : LS) (now term place holder : Int) : (grantL s now term place holder).1.hs.length ≤ s.hs.length + 1 := by
  have h1 := lasting_len s.hs now
  have h2 := mput_len (lasting s.hs now) place (holder, s.epoch + 1, now + term)
  unfold grantL
  try dsimp only
  repeat' split
  all_goals first | (show s.hs.length ≤ _; omega) | (show (mput _ _ _).length ≤ _; omega) | (show (lasting s.hs now).length ≤ _; omega)
theorem letL_len (s : LS) (now place holder epoch : Int) : (letL s now place holder epoch).1.hs.length ≤ s.hs.length := by
  have h1 := lasting_len s.hs now
  have h2 := mdel_len (lasting s.hs now) place
  unfold letL
  try dsimp only
  repeat' split
  all_goals first | (show s.hs.length ≤ _; omega) | (show (mdel _ _).length ≤ _; omega)
theorem askH_len (h : HS) (now place : Int) : (askH h now place).1.wants.length ≤ h.wants.length + 1 ∧ (askH h now place).1.has = h.has := by
  have h2 := mput_len h.wants place (h.life * 1048576 + (h.count + 1), now)
  unfold askH
  repeat' split
  all_goals exact ⟨by first | (show h.wants.length ≤ _; omega) | (show (mput _ _ _).length ≤ _; omega), rfl⟩
theorem denyH_len (h : HS) (place num : Int) : (denyH h place num).1.wants.length ≤ h.wants.length ∧ (denyH h place num).1.has = h.has := by
  have h2 := mdel_len h.wants place
  unfold denyH
  repeat' split
  all_goals exact ⟨by first | exact Nat.le_refl _ | exact h2, rfl⟩
theorem letH_len (h : HS) (place : Int) : (letH h place).1.wants = h.wants ∧ (letH h place).1.has.length ≤ h.has.length := by
  have h2 := mdel_len h.has place
  unfold letH
  repeat' split
  all_goals exact ⟨rfl, by first | exact Nat.le_refl _ | exact h2⟩
theorem grantH_len (h : HS) (now term margin place num epoch : Int) : (grantH h now term margin place num epoch).1.wants.length ≤ h.wants.length ∧ (grantH h now term margin place num epoch).1.has.length ≤ h.has.length + 1 := by
  have h2 := mdel_len h.wants place
  unfold grantH
  repeat' split
  all_goals exact ⟨by first | exact Nat.le_refl _ | exact h2, by first | exact Nat.le_succ _ | exact mput_len _ _ _⟩
theorem Pl.setH {K : Nat} {x : MW} (k : Pl K x) (j : Nat) {h : HS} (h1 : h.wants.length ≤ K + 1) (h2 : h.has.length ≤ K + 1) {way : List Word} (hw : way.length ≤ 200) (ho : ∀ mm ∈ way, (1 ≤ mm.holder ∧ mm.holder ≤ 3) ∧ (0 ≤ mm.place ∧ mm.place < 2)) : Pl (K + 1) { x with hs := Go.Proofs.Ytefllgpehhlkoaa.setH x.hs j h, way := way } :=
  ⟨Bd_mono k.bd (by omega), hw, ho, Nat.le_succ_of_le k.s, fun i => by
    show (Go.Proofs.Ytefllgpehhlkoaa.setH x.hs j h i).wants.length ≤ _
    by_cases e : i = j
    · subst e; rw [setH_same]; exact h1
    · rw [setH_other _ _ e]; exact Nat.le_succ_of_le (k.w i), fun i => by
    show (Go.Proofs.Ytefllgpehhlkoaa.setH x.hs j h i).has.length ≤ _
    by_cases e : i = j
    · subst e; rw [setH_same]; exact h2
    · rw [setH_other _ _ e]; exact Nat.le_succ_of_le (k.h i)⟩
theorem Pl.setS {K : Nat} {x : MW} (k : Pl K x) {s : LS} (hs : s.hs.length ≤ K + 1) {way : List Word} (hw : way.length ≤ 200) (ho : ∀ mm ∈ way, (1 ≤ mm.holder ∧ mm.holder ≤ 3) ∧ (0 ≤ mm.place ∧ mm.place < 2)) (bg : Bool) : Pl (K + 1) { x with s := s, way := way, began := bg } :=
  ⟨Bd_mono k.bd (by omega), hw, ho, hs, fun i => Nat.le_succ_of_le (k.w i), fun i => Nat.le_succ_of_le (k.h i)⟩
theorem Pl.less {K : Nat} {x : MW} (k : Pl K x) {way : List Word} (hw : way.length ≤ 200) (ho : ∀ mm ∈ way, mm ∈ x.way) : Pl K { x with way := way } := ⟨k.bd, hw, fun mm hm => k.wok mm (ho mm hm), k.s, k.w, k.h⟩
theorem come_eq1 (term margin : Int) (x : MW) (mm : Word) (h1 : mm.kind = 1) : Go.Proofs.Ytefllgpehhlkoaa.come term margin x mm = { x with s := (grantL x.s (x.c.N 0) term mm.place (mm.holder : Int)).1, way := x.way ++ [answer term x mm] } := by
  unfold Go.Proofs.Ytefllgpehhlkoaa.come comeS comeH
  simp only [if_pos h1, if_neg (show ¬ mm.kind = 2 by omega), if_neg (show ¬ mm.kind = 3 by omega)]
theorem come_eq2 (term margin : Int) (x : MW) (mm : Word) (h2 : mm.kind = 2) : Go.Proofs.Ytefllgpehhlkoaa.come term margin x mm = { x with hs := Go.Proofs.Ytefllgpehhlkoaa.setH x.hs mm.holder (grantH (x.hs mm.holder) (x.c.N mm.holder) term margin mm.place mm.num mm.epoch).1 } := by
  unfold Go.Proofs.Ytefllgpehhlkoaa.come comeS comeH
  simp only [if_neg (show ¬ mm.kind = 1 by omega), if_pos h2, if_neg (show ¬ mm.kind = 4 by omega)]
theorem come_eq3 (term margin : Int) (x : MW) (mm : Word) (h3 : mm.kind = 3) : Go.Proofs.Ytefllgpehhlkoaa.come term margin x mm = { x with hs := Go.Proofs.Ytefllgpehhlkoaa.setH x.hs mm.holder (denyH (x.hs mm.holder) mm.place mm.num).1 } := by
  unfold Go.Proofs.Ytefllgpehhlkoaa.come comeS comeH
  simp only [if_neg (show ¬ mm.kind = 1 by omega), if_neg (show ¬ mm.kind = 2 by omega), if_pos h3, if_neg (show ¬ mm.kind = 4 by omega)]
theorem come_eq4 (term margin : Int) (x : MW) (mm : Word) (h4 : mm.kind = 4) : Go.Proofs.Ytefllgpehhlkoaa.come term margin x mm = { x with s := (letL x.s (x.c.N 0) mm.place (mm.holder : Int) mm.epoch).1 } := by
  unfold Go.Proofs.Ytefllgpehhlkoaa.come comeS comeH
  simp only [if_neg (show ¬ mm.kind = 1 by omega), if_neg (show ¬ mm.kind = 2 by omega), if_neg (show ¬ mm.kind = 3 by omega), if_pos h4]
theorem come_eq0 (term margin : Int) (x : MW) (mm : Word) (h1 : mm.kind ≠ 1) (h2 : mm.kind ≠ 2) (h3 : mm.kind ≠ 3) (h4 : mm.kind ≠ 4) : Go.Proofs.Ytefllgpehhlkoaa.come term margin x mm = x := by
  unfold Go.Proofs.Ytefllgpehhlkoaa.come comeS comeH
  simp only [if_neg h1, if_neg h2, if_neg h3, if_neg h4]
theorem Pl.come {K : Nat} {x : MW} (k : Pl K x) (term margin : Int) (mm : Word) (hm : (1 ≤ mm.holder ∧ mm.holder ≤ 3) ∧ (0 ≤ mm.place ∧ mm.place < 2)) (hl : x.way.length < 200) : Pl (K + 1) (Go.Proofs.Ytefllgpehhlkoaa.come term margin x mm) := by
  by_cases h1 : mm.kind = 1
  · rw [come_eq1 _ _ _ _ h1]
    refine k.setS (Nat.le_trans (grantL_len _ _ _ _ _) (by have := k.s; omega)) (by rw [List.length_append]; simp; omega) (fun m' hm' => ?_) x.began
    rcases List.mem_append.1 hm' with h | h
    · exact k.wok m' h
    · rw [List.mem_singleton.1 h]
      exact hm
  by_cases h2 : mm.kind = 2
  · rw [come_eq2 _ _ _ _ h2]
    have h := grantH_len (x.hs mm.holder) (x.c.N mm.holder) term margin mm.place mm.num mm.epoch
    exact k.setH mm.holder (way := x.way) (by have := k.w mm.holder; omega) (by have := k.h mm.holder; omega) k.way k.wok
  by_cases h3 : mm.kind = 3
  · rw [come_eq3 _ _ _ _ h3]
    have h := denyH_len (x.hs mm.holder) mm.place mm.num
    exact k.setH mm.holder (way := x.way) (by have := k.w mm.holder; omega) (by rw [h.2]; have := k.h mm.holder; omega) k.way k.wok
  by_cases h4 : mm.kind = 4
  · rw [come_eq4 _ _ _ _ h4]
    have h := letL_len x.s (x.c.N 0) mm.place (mm.holder : Int) mm.epoch
    exact k.setS (way := x.way) (by have := k.s; omega) k.way k.wok x.began
  · rw [come_eq0 _ _ _ _ h1 h2 h3 h4]
    exact k.mono (by omega)
theorem wf2 {pl : Int} (h : 0 ≤ pl ∧ pl < 2) : (Lit.int .i64 pl).wf = true := WalkArith.wf_i64 (by omega)
/-- a move, and how much there is behind it -/
theorem next_any (w : World) (lo p : Nat) (x : MW) (kind i place : Int) (m : Option Nat) (a b : Nat → Option Nat) (v : Value) (term margin : Int) (K : Nat) (hk : Wd2 w lo p x m a b v) (hP : Pl K x) (hK : K ≤ 1000) (hep : 0 ≤ x.s.epoch) :
    Calls Try.prog 51 #[.agg (WC x p m a b v term margin), .agg (mC kind i place)] w (HandsT w lo p (nextM term margin x kind i place) term margin) ∧ Pl (K + 1) (nextM term margin x kind i place) := by
  obtain ⟨j, hjd⟩ : ∃ j, j = 1 + (i % 3).toNat := ⟨_, rfl⟩
  obtain ⟨pl, hpl⟩ : ∃ pl, place % 2 = pl := ⟨_, rfl⟩
  have hj : 1 ≤ j ∧ j ≤ 3 ∧ i % 3 = (j : Int) - 1 := by
    have h1 := Int.emod_nonneg i (show (3 : Int) ≠ 0 by omega)
    have h2 := Int.emod_lt_of_pos i (show (0 : Int) < 3 by omega)
    omega
  have hpl2 : 0 ≤ pl ∧ pl < 2 := by
    have h1 := Int.emod_nonneg place (show (2 : Int) ≠ 0 by omega)
    have h2 := Int.emod_lt_of_pos place (show (0 : Int) < 2 by omega)
    omega
  have hp := wf2 hpl2
  have hwl : x.way.length ≤ 300 := by have := hP.way; omega
  have hwj := hP.w j
  have hhj := hP.h j
  have hone : ∀ (wd : Word), wd.holder = j → wd.place = pl → x.way.length < 200 → (x.way ++ [wd]).length ≤ 200 ∧ ∀ mm ∈ x.way ++ [wd], (1 ≤ mm.holder ∧ mm.holder ≤ 3) ∧ (0 ≤ mm.place ∧ mm.place < 2) := fun wd e1 e2 hl => by
    refine ⟨by rw [List.length_append]; simp; omega, fun mm hm => ?_⟩
    rcases List.mem_append.1 hm with h | h
    · exact hP.wok mm h
    · rw [List.mem_singleton.1 h, e1, e2]
      exact ⟨⟨hj.1, hj.2.1⟩, hpl2⟩
  unfold nextM
  rw [← hjd, hpl]
  by_cases h0 : kind = 0
  · rw [if_pos h0]
    have h4 : i % 4 = ((i % 4).toNat : Int) := by have := Int.emod_nonneg i (show (4 : Int) ≠ 0 by omega); omega
    have h5 := Int.emod_lt_of_pos i (show (0 : Int) < 4 by omega)
    exact ⟨next0 w lo p x kind i place j pl m a b v term margin hk hj hpl hp hwl h0 (i % 4).toNat K h4 hP.bd (by omega), ⟨Bd_tickAt hP.bd _, hP.way, hP.wok, Nat.le_succ_of_le hP.s, fun j => Nat.le_succ_of_le (hP.w j), fun j => Nat.le_succ_of_le (hP.h j)⟩⟩
  rw [if_neg h0]
  by_cases h1 : kind = 1
  · rw [if_pos h1]
    dsimp only
    have hlen := askH_len (x.hs j) (x.c.N j) pl
    by_cases hok : (askH (x.hs j) (x.c.N j) pl).2.2 = 0
    · by_cases hc : x.way.length < 200
      · rw [if_pos ⟨hok, hc⟩]
        have ho := hone ⟨1, j, pl, (askH (x.hs j) (x.c.N j) pl).2.1, 0⟩ rfl rfl hc
        exact ⟨next1A w lo p x kind i place j pl m a b v term margin hk hj hpl hp hwl h1 (by omega) hok hc, hP.setH j (by omega) (by rw [hlen.2]; omega) ho.1 ho.2⟩
      · rw [if_neg (fun h => hc h.2)]
        exact ⟨next1B w lo p x kind i place j pl m a b v term margin hk hj hpl hp hwl h1 (by omega) hok hc, hP.setH j (by omega) (by rw [hlen.2]; omega) hP.way hP.wok⟩
    · rw [if_neg (fun h => hok h.1)]
      exact ⟨next1C w lo p x kind i place j pl m a b v term margin hk hj hpl hp hwl h1 (by omega) hok, hP.setH j (by omega) (by rw [hlen.2]; omega) hP.way hP.wok⟩
  rw [if_neg h1]
  by_cases h234 : kind = 2 ∨ kind = 3 ∨ kind = 4
  · rw [if_pos h234]
    by_cases hz : x.way.length = 0
    · rw [if_pos hz]
      refine ⟨?_, hP.mono (by omega)⟩
      rcases h234 with h | h | h
      · exact next2z w lo p x kind i place j pl m a b v term margin hk hj hpl hp hwl h hz
      · exact next3z w lo p x kind i place j pl m a b v term margin hk hj hpl hp hwl h hz
      · exact next4z w lo p x kind i place j pl m a b v term margin hk hj hpl hp hwl h hz
    rw [if_neg hz]
    dsimp only
    obtain ⟨jx, hjx0⟩ : ∃ jx, jx = (i % (x.way.length : Int)).toNat := ⟨_, rfl⟩
    rw [← hjx0]
    have a1 := Int.emod_nonneg i (show (x.way.length : Int) ≠ 0 by omega)
    have a2 := Int.emod_lt_of_pos i (show 0 < (x.way.length : Int) by omega)
    have hjm : i % (x.way.length : Int) = (jx : Int) := by omega
    have hjx : jx < x.way.length := by omega
    have hgd : x.way.getD jx w0 = x.way[jx] := by rw [List.getD_eq_getElem?_getD, List.getElem?_eq_getElem hjx]; rfl
    rw [hgd]
    have hmem := List.getElem_mem hjx
    have hok0 := hP.wok _ hmem
    have hok : (1 ≤ x.way[jx].holder ∧ x.way[jx].holder ≤ 3) ∧ (Lit.int .i64 x.way[jx].place).wf = true := ⟨hok0.1, wf2 hok0.2⟩
    have hsz : (lasting x.s.hs (x.c.N 0)).length < 1000000 := by have := lasting_len x.s.hs (x.c.N 0); have := hP.s; omega
    have hhas : ∀ j, (x.hs j).has.length < 1000000 := fun j => by have := hP.h j; omega
    have hle : (x.way.eraseIdx jx).length = x.way.length - 1 := by rw [List.length_eraseIdx, if_pos hjx]
    have hw200 := hP.way
    have hless : Pl K { x with way := x.way.eraseIdx jx } := hP.less (by rw [hle]; omega) (fun mm hm => List.mem_of_mem_eraseIdx hm)
    by_cases h3 : kind = 3
    · simp only [if_pos h3]
      by_cases hc : x.way.length < 200
      · rw [if_pos ⟨by omega, hc⟩]
        exact ⟨next3A w lo p x kind i place j pl m a b v term margin hk hj hpl hp hwl h3 jx hjx hjm hok (by omega) hsz hhas hc, hP.come term margin _ hok0 hc⟩
      · rw [if_neg (fun h => hc h.2)]
        exact ⟨next3B w lo p x kind i place j pl m a b v term margin hk hj hpl hp hwl h3 jx hjx hjm hc, hP.mono (by omega)⟩
    · simp only [if_neg h3]
      by_cases h4 : kind = 4
      · rw [if_neg (fun h => h.1 h4)]
        exact ⟨next4 w lo p x kind i place j pl m a b v term margin hk hj hpl hp hwl h4 jx hjx hjm, hless.mono (by omega)⟩
      · have h2 : kind = 2 := by omega
        by_cases hc : x.way.length - 1 < 200
        · rw [if_pos ⟨h4, by rw [hle]; exact hc⟩]
          exact ⟨next2A w lo p x kind i place j pl m a b v term margin hk hj hpl hp hwl h2 jx hjx hjm hok (by omega) hsz hhas hc, hless.come term margin _ hok0 (by show (x.way.eraseIdx jx).length < 200; omega)⟩
        · rw [if_neg (fun h => hc (by rw [← hle]; exact h.2))]
          exact ⟨next2B w lo p x kind i place j pl m a b v term margin hk hj hpl hp hwl h2 jx hjx hjm hc, hless.mono (by omega)⟩
  rw [if_neg h234]
  by_cases h5 : kind = 5
  · rw [if_pos h5]
    dsimp only
    have hlen := letH_len (x.hs j) pl
    by_cases hok : (letH (x.hs j) pl).2.2 = 0
    · by_cases hc : x.way.length < 200
      · rw [if_pos ⟨hok, hc⟩]
        have ho := hone ⟨4, j, pl, 0, (letH (x.hs j) pl).2.1⟩ rfl rfl hc
        exact ⟨next5A w lo p x kind i place j pl m a b v term margin hk hj hpl hp hwl h5 hok hc, hP.setH j (by rw [hlen.1]; omega) (by omega) ho.1 ho.2⟩
      · rw [if_neg (fun h => hc h.2)]
        exact ⟨next5B w lo p x kind i place j pl m a b v term margin hk hj hpl hp hwl h5 hok hc, hP.setH j (by rw [hlen.1]; omega) (by omega) hP.way hP.wok⟩
    · rw [if_neg (fun h => hok h.1)]
      exact ⟨next5C w lo p x kind i place j pl m a b v term margin hk hj hpl hp hwl h5 hok, hP.setH j (by rw [hlen.1]; omega) (by omega) hP.way hP.wok⟩
  rw [if_neg h5]
  by_cases h6 : kind = 6
  · rw [if_pos h6]
    exact ⟨next6 w lo p x kind i place j pl m a b v term margin hk hj hpl hp hwl h6, hP.setH j (Nat.zero_le _) (Nat.zero_le _) hP.way hP.wok⟩
  rw [if_neg h6]
  by_cases h7 : kind = 7
  · rw [if_pos h7]
    exact ⟨next7 w lo p x kind i place j pl m a b v term margin hk hj hpl hp hwl h7, hP.setS (Nat.zero_le _) hP.way hP.wok true⟩
  rw [if_neg h7]
  exact ⟨next9 w lo p x kind i place j pl m a b v term margin hk hj hpl hp hwl h0 h1 (fun h => h234 (.inl h)) (fun h => h234 (.inr (.inl h))) (fun h => h234 (.inr (.inr h))) h5 h6 h7, hP.mono (by omega)⟩
end Go.Proofs.Ytefllgpehhlkoaa.Mar
namespace Go.Proofs.Ytefllgpehhlkoaa
open Go.ChangeShapes Go.WideShapes Go.ChangeAt Go.RowKit Go.Joins Go.Deep

section
variable {H : Type} {enc : TypeId × Value → H} {w : World} {base : Nat} {held : Bool}
theorem open_isRecs114 {a : Option Addr} {len cap : Nat} {d : DataW H} {p : List MemPlace} (h : DataW.Trod enc Try.prog w base (fun _ => true) held 105 (.slice a len cap) d p) : ∃ z, IsRecs w 3 a len cap z :=
  open_recs Try.underlying105 Try.underlying114 (by kernel_rfl) (by kernel_rfl) (fun j hj => by
    rcases (by omega : j = 0 ∨ j = 1 ∨ j = 2) with rfl | rfl | rfl <;> exact ⟨_, rfl, rfl, rfl⟩) (by decide) h
end
end Go.Proofs.Ytefllgpehhlkoaa
namespace Go.Proofs.Ytefllgpehhlkoaa.Mar
open Go.RowKit Go.Maps Go.Proofs.YtefllgpehhlkoaaW.PrintWords Go.Proofs.YtefllgpehhlkoaaW.PrintLast
set_option linter.unusedVariables false
set_option linter.unusedSimpArgs false

theorem exec_load_cells {w : World} {o : Oper} {a : Act} {b off : Nat} {ys : Array Value} (pa : Operand) (T : TypeId) (ho : o.op = .load T pa) (hp : a.eval pa = .pointer (some ⟨b, off, none⟩)) (hT : AggTy Try.prog T) (hi : (Try.prog.info? T).map (·.size) = some ys.size)
    (hy : ∀ j u, ys.toList[j]? = some u → w.cell? ⟨b, off + j, none⟩ = some u) : (execOp a.eval o).run Try.prog w = .ok (.value (.agg ys)) w := by
  have h := run_loadCells_list (P := Try.prog) (w := w) ⟨b, off, none⟩ ys.toList (fun j v hv => by
    have e : (⟨b, off, none⟩ : Addr).add j = ⟨b, off + j, none⟩ := by unfold Addr.add; split <;> simp_all
    rw [e]
    exact hy j v hv)
  have hr : (Instr.loadAt T (.pointer (some ⟨b, off, none⟩))).run Try.prog w = .ok (.agg ys) w := by
    obtain ⟨d, hu, hd⟩ := hT
    simp only [Instr.loadAt, Instr.sureAddr, Sem.run_bind, Sem.run_pure, Result.andThen]
    cases hq : Try.prog.info? T with
    | none => simp [hq] at hi
    | some i =>
      have hs : i.size = ys.size := by simpa [hq] using hi
      have ha : (isAgg T).run Try.prog w = .ok true w := by
        cases d <;> simp at hd <;> simp [isAgg, hu, run_underlying hu]
      simp only [loadVar, Sem.run_bind, ha, Result.andThen_ok, if_true]
      have h' : Sem.run Try.prog (loadCells ⟨b, off, none⟩ ys.size) w = .ok ys w := by simpa using h
      simp [sizeOf, typeInfo, hq, hs, h', Result.andThen]
  unfold execOp
  simp only [ho, Sem.run_bind, Sem.run_pure, Result.andThen_ok, hp, hr]
structure LawI (w W : World) (g lo p : Nat) (x : MW) (m : Option Nat) (a b : Nat → Option Nat) (v : Value) (term margin : Int) (K : Nat) : Prop where
  blk : Blk W g 109 (WC x p m a b v term margin)
  wd : Wd2 W lo p x m a b v
  only : Out w W
  low : lo + 4 ≤ g
  wlo : w.heap.size ≤ lo
  pl : Pl K x
  inv : ∃ gh, Inv term margin gh x
theorem LawI.o {w W W' : World} {g lo p : Nat} {x : MW} {m : Option Nat} {a b : Nat → Option Nat} {v : Value} {term margin : Int} {K : Nat} (k : LawI w W g lo p x m a b v term margin K) (o : Out W W') : LawI w W' g lo p x m a b v term margin K :=
  ⟨k.blk.o o, k.wd.kept o, Out.thens k.only o, k.low, k.wlo, k.pl, k.inv⟩
theorem begin2 (w : World) (term margin : Int) : Calls Try.prog 50 #[.agg #[.int .i64 term, .int .i64 margin]] w fun e w' => ∃ p, e = .returned (.tuple #[.agg (WC mw0 p none (fun _ => none) (fun _ => none) (.slice none 0 0) term margin), .bool true]) ∧ Wd2 w' (w.heap.size + 2) p mw0 none (fun _ => none) (fun _ => none) (.slice none 0 0) ∧ Out w w' := by
  refine (begin_mar w term margin).mono ?_
  rintro e w' ⟨p, rfl, h1, h2, h3⟩
  exact ⟨p, rfl, ⟨h1, rfl, fun _ => rfl, fun _ => rfl, KW_nil _ _, h2⟩, h3⟩
set_option maxRecDepth 100000 in
set_option maxHeartbeats 16000000 in
theorem margin_bad (w : World) (term margin : Int) (A : Option Addr) (L cap : Nat) (hb : term < 1 ∨ 1000 < term ∨ margin < 0 ∨ 1000 < margin) :
    Calls Try.prog 14 #[.int .i64 term, .int .i64 margin, .slice A L cap] w fun e w' => e = .returned (.bool true) ∧ Out w w' := by
  rcases (show term < 1 ∨ (¬ term < 1 ∧ 1000 < term) ∨ (¬ term < 1 ∧ ¬ 1000 < term ∧ margin < 0) ∨ (¬ term < 1 ∧ ¬ 1000 < term ∧ ¬ margin < 0 ∧ 1000 < margin) by omega) with h1 | ⟨h1, h2⟩ | ⟨h1, h2, h3⟩ | ⟨h1, h2, h3, h4⟩
  all_goals
    clear hb
    go_enter Try.func14, Try.ntmps14
    go_wp2_with (first
      | (go_at_call 25; (with_reducible refine (awake19 _).mono ?_); rintro e7 W7 ⟨rfl, hO7⟩)
      | fail)
    go_ret
    exact ⟨rfl, hO7⟩
set_option maxRecDepth 100000 in
set_option maxHeartbeats 16000000 in
theorem margin_any (w : World) (term margin : Int) (A : Option Addr) (L cap : Nat) (z : Nat → Nat → Int) (hz : IsRecs w 3 A L cap z) :
    Calls Try.prog 14 #[.int .i64 term, .int .i64 margin, .slice A L cap] w fun e w' => e = .returned (.bool true) ∧ Out w w' := by
  by_cases hb : term < 1 ∨ 1000 < term ∨ margin < 0 ∨ 1000 < margin
  · exact margin_bad w term margin A L cap hb
  have h1 : ¬ term < 1 := by omega
  have h2 : ¬ 1000 < term := by omega
  have h3 : ¬ margin < 0 := by omega
  have h4 : ¬ 1000 < margin := by omega
  have HZ := Lib.hid hz
  clear hb hz
  go_enter Try.func14, Try.ntmps14
  go_wp2_with (first
    | (go_at_call 50; (with_reducible refine (begin2 _ term margin).mono ?_); rintro e W1 ⟨p, rfl, hwd, hO⟩; have HWd1 := Lib.hid hwd; have HO1 := Lib.hid hO; clear hwd hO)
    | ((with_reducible refine gate_dst (N := 7) rfl ?_); refine box_event rfl (N := 7) rfl (cs := Z24) (t := 109) ?hr ?_; (case hr => first | (go_simp; done) | (go_simp; rfl)); intro g hg W2 hbox hb; have HZ2 := Lib.hid (show Blk W2 g 109 Z24 from hbox); have HWd2 := Lib.hid (HWd1.out.kept (Out.of hb)); have HO2 := Lib.hid (Out.thens HO1.out (Out.of hb)); have HGl := Lib.hid (show w.heap.size + 2 + 4 ≤ g by rw [hg]; exact HWd1.out.full); clear hg hbox hb)
    | (refine wpList_store_part _ rfl (.tmp 7) (.tmp 30) 109 rfl g 0 (WC mw0 p none (fun _ => none) (fun _ => none) (.slice none 0 0) term margin) rfl rfl size109 HWd1.out.one 109 _ HZ2.out (Nat.le_refl _) (WC mw0 p none (fun _ => none) (fun _ => none) (.slice none 0 0) term margin) rfl ?_; intro w3 hbz hfz; have HI0 : Hid (LawI w w3 g (w.heap.size + 2) p mw0 none (fun _ => none) (fun _ => none) (.slice none 0 0) term margin 0) := Lib.hid ⟨hbz, HWd2.out.far HZ2.out (by decide) HGl.out hfz, Out.far HO2.out hfz (by have := HGl.out; omega), HGl.out, by omega, Pl.zero, _, inv_zero (by omega)⟩; clear hbz hfz)
    | fail)
  obtain ⟨lo, hlo⟩ : ∃ lo, lo = w.heap.size + 2 := ⟨_, rfl⟩
  rw [← hlo] at HI0
  clear hlo HWd1 HO1 HZ2 HWd2 HO2 HGl
  go_loopw [9] (fun iv wr => ∃ (kk : Nat) (x : MW) (m : Option Nat) (a b : Nat → Option Nat) (v : Value), kk ≤ 200 ∧ iv = .int .i64 (kk : Int) ∧ Hid (LawI w wr g lo p x m a b v term margin kk)) (fun iv _ => 200 - (intOf iv).toNat)
  case atStart => exact ⟨0, mw0, none, fun _ => none, fun _ => none, .slice none 0 0, by omega, rfl, HI0⟩
  case round =>
    clear HI0
    obtain ⟨kk, x, m, a, b, v, hKK, rfl, HI⟩ := hrel
    by_cases hlt : kk < L ∧ kk < 200
    · obtain ⟨hKL, hK2⟩ := hlt
      obtain ⟨bm, o, hA, hbm, hcell⟩ := HZ.out.2.2.resolve_left (by omega)
      subst hA
      have HCell : Hid (∀ V, Out w V → ∀ j u, (mC (z kk 0) (z kk 1) (z kk 2)).toList[j]? = some u → V.cell? ⟨bm, o + kk * 3 + j, none⟩ = some u) := Lib.hid (fun V hV j u hu => by
        have hj : j < 3 := (List.getElem?_eq_some_iff.1 hu).1
        have h5 := (hcell kk hKL j hj).1
        have h6 := (Out.bel hV).cell (p := ⟨bm, o + (kk * 3 + j), none⟩) hbm
        rw [Nat.add_assoc, h6, h5]
        rcases (show j = 0 ∨ j = 1 ∨ j = 2 by omega) with rfl | rfl | rfl <;> simpa [mC] using hu)
      obtain ⟨gh, hInv⟩ := HI.out.inv
      have hbd := HI.out.pl.bd.1 0
      have hN : Inv term margin gh x := hInv
      have hnext := fun V (hV : Out wr V) => next_any V lo p x (z kk 0) (z kk 1) (z kk 2) m a b v term margin kk (HI.out.wd.kept hV) HI.out.pl (by omega) hInv.epoch0
      obtain ⟨y, hy⟩ : ∃ y, y = nextM term margin x (z kk 0) (z kk 1) (z kk 2) := ⟨_, rfl⟩
      have HPl : Hid (Pl (kk + 1) y) := Lib.hid (by rw [hy]; exact (hnext wr (Only.refl _ _ _)).2)
      have HInv : Hid (∃ gh, Inv term margin gh y) := Lib.hid (by rw [hy]; exact hInv.next _ _ _ hbd.1 (by omega) (by omega) (by omega))
      have HNext : Hid (∀ V, Out wr V → Calls Try.prog 51 #[.agg (WC x p m a b v term margin), .agg (mC (z kk 0) (z kk 1) (z kk 2))] V (HandsT V lo p y term margin)) := Lib.hid (fun V hV => by rw [hy]; exact (hnext V hV).1)
      have hKI : (kk : Int) < (L : Int) := by omega
      have hKI2 : (kk : Int) < 200 := by omega
      have hu114 := Try.underlying114
      clear hcell hInv hN hnext hy hbd
      go_wp2_with fail
      refine start_ (n := 7) (S := fun W' => Blk W' g 109 (WC x p m a b v term margin) ∧ Out wr W') (ds := [5, 6]) #[false, false, false, false, false, false, false] (by kernel_rfl) rfl rfl (⟨HI.out.blk.drew, (Only.refl _ _ _).drew⟩) (fun hHeld => ?_)
      refine pure_ (i := 1) (N := some 45) (v := ?_) (a' := ?_) #[false, true, false, false, false, false, false] rfl rfl (by kernel_rfl) (fun _ _ _ h => h) (Or.inl ⟨by rfl, ?_⟩) ?_ ?_
      rotate_left
      · intro w'
        go_simp
        (try with_reducible rfl)
      rotate_left
      · simp only [Act.put, List.setIfInBounds_toArray, List.set_cons_zero, List.set_cons_succ]
        rfl
      refine pure_ (i := 2) (N := some 46) (v := ?_) (a' := ?_) #[false, true, true, false, false, false, false] rfl rfl (by kernel_rfl) (fun _ _ _ h => h) (Or.inl ⟨by rfl, ?_⟩) ?_ ?_
      rotate_left
      · intro w'
        go_simp
        (try with_reducible rfl)
      rotate_left
      · simp only [Act.put, List.setIfInBounds_toArray, List.set_cons_zero, List.set_cons_succ]
        rfl
      refine pure_ (i := 3) (N := some 47) (v := ?_) (a' := ?_) #[false, true, true, true, false, false, false] rfl rfl (by kernel_rfl) (fun _ _ _ h => h) (Or.inl ⟨by rfl, ?_⟩) ?_ ?_
      rotate_left
      · intro w'
        go_simp
        (try with_reducible rfl)
      rotate_left
      · simp only [Act.put, List.setIfInBounds_toArray, List.set_cons_zero, List.set_cons_succ]
        rfl
      refine take_ (i := 0) (N := some 44) (v := ?_) (a' := ?_) #[true, true, true, true, false, false, false] rfl rfl (by kernel_rfl) (fun _ _ _ h => h) (Or.inl ⟨by rfl, ?_⟩) hHeld ?_ ?_
      rotate_left
      · intro w' s0
        obtain ⟨t1, t2⟩ := s0
        refine exec_load_part _ (.tmp 7) 109 ?_ g 0 (WC x p m a b v term margin) ?_ agg109 size109 109 _ t1 ?_
        · rfl
        · rfl
        · intro k u hu
          rw [Nat.zero_add]
          simpa using hu
      rotate_left
      · simp only [Act.put, List.setIfInBounds_toArray, List.set_cons_zero, List.set_cons_succ]
        rfl
      refine take_ (i := 4) (N := some 48) (v := ?_) (a' := ?_) #[true, true, true, true, true, false, false] rfl rfl (by kernel_rfl) (fun _ _ _ h => h) (Or.inl ⟨by rfl, ?_⟩) hHeld ?_ ?_
      rotate_left
      · intro w' s0
        obtain ⟨t1, t2⟩ := s0
        refine exec_load_cells (b := bm) (off := o + kk * 3) (ys := mC (z kk 0) (z kk 1) (z kk 2)) (.tmp 47) 114 ?_ ?_ agg114 size114 (HCell.out _ (Out.thens HI.out.only t2))
        · rfl
        · (first | rfl | (simp [Act.eval]))
      rotate_left
      · simp only [Act.put, List.setIfInBounds_toArray, List.set_cons_zero, List.set_cons_succ]
        rfl
      refine last_ (i := 5) (N := some 49) (oi := ⟨some 49, Go.Op.call ⟨Go.Callee.value (Go.Operand.func 51), #[Go.Operand.tmp 44, Go.Operand.tmp 48], #[109, 114]⟩, 109, "outright.go:142", #[⟨0, Go.Ground.data⟩, ⟨4, Go.Ground.data⟩], none⟩) #[true, true, true, true, true, true, false] rfl rfl (by kernel_rfl) (by decide) (fun K hK => ?_)
      rw [if_pos (by rfl)]
      go_simp
      (go_at_call 51; (with_reducible refine (HNext.out _ hHeld.2).mono ?_); rintro e6 W9 ⟨m1, a1, b1, v1, rfl, hwd, hO⟩; have HWd := Lib.hid hwd; have HG9 : Hid (Blk W9 g 109 (WC x p m a b v term margin)) := Lib.hid ((hO.block g hHeld.1.lt (.inr HI.out.low)).trans hHeld.1); have HO9 := Lib.hid (Only.then (Out.thens HI.out.only hHeld.2) hO HI.out.wlo); clear hwd hO hHeld)
      refine hK.out _ _ ?_
      clear hK K
      try simp only [Act.put, List.setIfInBounds_toArray, List.set_cons_zero, List.set_cons_succ]
      refine last_ (i := 6) (N := none) (oi := ⟨none, Go.Op.store 109 (Go.Operand.tmp 7) (Go.Operand.tmp 49), 0, "outright.go:142", #[⟨5, Go.Ground.data⟩, ⟨5, Go.Ground.chain⟩, ⟨0, Go.Ground.phase⟩, ⟨1, Go.Ground.phase⟩, ⟨2, Go.Ground.phase⟩, ⟨3, Go.Ground.phase⟩, ⟨4, Go.Ground.phase⟩, ⟨5, Go.Ground.phase⟩], none⟩) #[true, true, true, true, true, true, true] rfl rfl (by kernel_rfl) (by decide) (fun K hK => ?_)
      refine step_store_part _ (by rfl) rfl (.tmp 7) (.tmp 49) 109 rfl g 0 (WC y p m1 a1 b1 v1 term margin) rfl rfl size109 HWd.out.one 109 _ HG9.out (Nat.le_refl _) (WC y p m1 a1 b1 v1 term margin) rfl ?_
      intro w10 hb10 hfr
      have HJ : Hid (LawI w w10 g lo p y m1 a1 b1 v1 term margin (kk + 1)) := Lib.hid ⟨hb10, HWd.out.far HG9.out (by decide) HI.out.low hfr, Out.far HO9.out hfr (Nat.le_trans HI.out.wlo (Nat.le_trans (Nat.le_add_right _ _) HI.out.low)), HI.out.low, HI.out.wlo, HPl.out, HInv.out⟩
      have c0 : w10.cell? ⟨g, 0, none⟩ = some (.pointer (some ⟨p, 0, none⟩)) := hb10.cell 0
      clear hb10 hfr
      refine hK.out _ _ ?_
      clear hK K
      try simp only [Act.put, List.setIfInBounds_toArray, List.set_cons_zero, List.set_cons_succ]
      refine done_ (by kernel_rfl) ?_
      have HBd := HPl.out.bd
      have HWo : Hid (Calls Try.prog 24 #[.pointer (some ⟨p, 0, none⟩)] w10 fun e w' => e = .returned (.int .i64 (y.c.worst 4)) ∧ ∃ n, w' = w10.drewN n) := Lib.hid (worst_any w10 lo (lo + 4) p 4 (kk + 1) y.c HJ.out.wd.clk HBd (by omega) (by decide))
      clear HBd
      by_cases hw : margin < y.c.worst 4
      · go_wp2_with (first
          | (go_at_call 24; (with_reducible refine (HWo.out).mono ?_); rintro e5 W5 ⟨rfl, n5, rfl⟩; have HZ := Lib.hid (Out.thens HJ.out.only ((Only.refl _ _ w10).drewN n5)); clear c0)
          | (go_at_call 25; (with_reducible refine (awake19 _).mono ?_); rintro e7 W7 ⟨rfl, hO7⟩; have HZ7 := Lib.hid (Out.thens HZ.out hO7); clear hO7)
          | fail)
        go_ret
        exact ⟨rfl, HZ7.out⟩
      · have HSafe : Hid (∀ V, Out w10 V → Calls Try.prog 52 #[.agg (WC y p m1 a1 b1 v1 term margin)] V fun e w' => e = .returned (.bool true) ∧ Out V w') := Lib.hid (fun V hV => safe_any V lo p y m1 a1 b1 v1 term margin (HJ.out.wd.kept hV) (by
          obtain ⟨gh, hI⟩ := HInv.out
          have hN0 := (HPl.out.bd.1 0).1
          have hdr : ∀ j, j < 4 → y.c.drift j ≤ margin := fun j hj => Int.le_trans (le_worst y.c j 4 hj) (by omega)
          exact ⟨fun j _ h3 pl e hb => by
            obtain ⟨h1, e', t, _, h4, h5⟩ := hI.believer hN0 (hdr j (by omega)) hb
            exact ⟨h1, fun hbg => ⟨e', t, h5 hbg, h4⟩⟩, fun pl j j' e e' _ h3 _ h3' hb hb' => hI.one hN0 (hdr j (by omega)) (hdr j' (by omega)) hb hb'⟩))
        go_wp2_with (first
          | (go_at_call 24; (with_reducible refine (HWo.out).mono ?_); rintro e5 W5 ⟨rfl, n5, rfl⟩; have HO5 := Lib.hid ((Only.refl w10.heap.size w10.heap.size w10).drewN n5); clear c0)
          | ((with_reducible refine gate_dst (N := 56) rfl ?_); refine wpList_load_part _ rfl (.tmp 7) 109 rfl g 0 (WC y p m1 a1 b1 v1 term margin) rfl agg109 size109 109 _ (HJ.out.blk.o HO5.out) (fun k u hu => (by rw [Nat.zero_add]; simpa using hu)) ?_)
          | (go_at_call 52; (with_reducible refine (HSafe.out _ HO5.out).mono ?_); rintro e7 W7 ⟨rfl, hO7⟩; have HJ7 := Lib.hid (HJ.out.o (Out.thens HO5.out hO7)); clear hO7)
          | fail)
        go_roundw
        case rel => exact ⟨kk + 1, y, m1, a1, b1, v1, by omega, by go_num, HJ7⟩
        case measure => simp [intOf]; omega
    · have hend : ¬ ((kk : Int) < (L : Int)) ∨ ((kk : Int) < (L : Int) ∧ ¬ ((kk : Int) < 200)) := by omega
      rcases hend with hend | ⟨hend, hend2⟩
      all_goals
        go_wp2_with (first
          | (go_at_call 25; (with_reducible refine (awake19 _).mono ?_); rintro e7 W7 ⟨rfl, hO7⟩)
          | fail)
        go_ret
        exact ⟨rfl, Out.thens HI.out.only hO7⟩
end Go.Proofs.Ytefllgpehhlkoaa.Mar
