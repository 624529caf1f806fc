/- Fogs: plain laws: what a look turns. -/
import Derived.Test.YteehbjdohionlaaDoorF1
namespace Go.Proofs.YteehbjdohionlaaDoor
open Go Go.K

theorem idx_inj {w u v x y : Int} (hu : 0 ≤ u ∧ u < w) (hx : 0 ≤ x ∧ x < w) (h : v * w + u = y * w + x) : u = x ∧ v = y := by
  rcases Int.lt_trichotomy v y with h1 | h1 | h1
  · have := Int.mul_le_mul_of_nonneg_right (show v + 1 ≤ y by omega) (show 0 ≤ w by omega)
    rw [Int.add_mul, Int.one_mul] at this
    omega
  · subst h1; omega
  · have := Int.mul_le_mul_of_nonneg_right (show y + 1 ≤ v by omega) (show 0 ≤ w by omega)
    rw [Int.add_mul, Int.one_mul] at this
    omega
theorem gIn_bd {w h x y : Int} (hx : gIn w h x y = true) : 0 ≤ x ∧ x < w ∧ 0 ≤ y ∧ y < h := by
  simp only [gIn, gMay, btw, Bool.and_eq_true, decide_eq_true_eq] at hx
  omega
theorem gIn_num {w h : Int} {p n : Nat} (hg : gMay w h = true) (hn : (n : Int) = w * h) (hp : p < n) : gIn w h ((p : Int) % w) ((p : Int) / w) = true ∧ (p : Int) / w * w + (p : Int) % w = p := by
  obtain ⟨_, _, _, n4, n5, n6, n7, _⟩ := nwO_bd hg
  have h1 := Int.emod_nonneg (p : Int) (show w ≠ 0 by omega)
  have h2 := Int.emod_lt_of_pos (p : Int) (show 0 < w by omega)
  have h3 := Int.mul_ediv_add_emod (p : Int) w
  have h5 : (p : Int) / w * w + (p : Int) % w = p := by rw [Int.mul_comm]; exact h3
  have h6 : 0 ≤ (p : Int) / w := Int.ediv_nonneg (by omega) (by omega)
  have h7 : (p : Int) / w < h := by
    refine Int.ediv_lt_of_lt_mul (by omega) ?_
    rw [Int.mul_comm]; omega
  refine ⟨?_, h5⟩
  generalize (p : Int) % w = a at *
  generalize (p : Int) / w = b at *
  simp only [gIn, btw, Bool.and_eq_true, decide_eq_true_eq]
  exact ⟨⟨hg, by omega, by omega⟩, by omega, by omega⟩
theorem mHas_mSet (w h u v x y : Int) (b : Bool) (f : Nat → Bool) : mHas w h (mSet w h f u v b) x y = if (decide (u = x) && decide (v = y)) && gIn w h x y then b else mHas w h f x y := by
  unfold mHas mSet
  cases hx : gIn w h x y with
  | false => simp
  | true =>
    obtain ⟨x1, x2, x3, x4⟩ := gIn_bd hx
    by_cases hu : gIn w h u v = true
    · obtain ⟨u1, u2, u3, u4⟩ := gIn_bd hu
      rw [if_pos hu]
      by_cases he : u = x ∧ v = y
      · obtain ⟨rfl, rfl⟩ := he
        simp [upd]
      · have hv := Int.mul_nonneg (show 0 ≤ v by omega) (show 0 ≤ w by omega)
        have hy := Int.mul_nonneg (show 0 ≤ y by omega) (show 0 ≤ w by omega)
        have hne : (y * w + x).toNat ≠ (v * w + u).toNat := fun e => he (idx_inj (w := w) ⟨u1, u2⟩ ⟨x1, x2⟩ (by omega))
        have : (decide (u = x) && decide (v = y)) = false := by
          by_cases e1 : u = x
          · by_cases e2 : v = y
            · exact absurd ⟨e1, e2⟩ he
            · simp [e2]
          · simp [e1]
        rw [this]
        simp [upd, hne]
    · rw [if_neg hu]
      have : (decide (u = x) && decide (v = y)) = false := by
        by_cases e1 : u = x
        · by_cases e2 : v = y
          · subst e1 e2; exact absurd hx hu
          · simp [e2]
        · simp [e1]
      rw [this]; simp
theorem cntB_mono (f : Nat → Bool) {a : Nat} : ∀ b, a ≤ b → cntB f a ≤ cntB f b
  | 0, h => by rw [show a = 0 by omega]; exact Nat.le_refl _
  | b + 1, h => by
    rcases Nat.lt_or_ge b a with h1 | h1
    · rw [show a = b + 1 by omega]; exact Nat.le_refl _
    · exact Nat.le_trans (cntB_mono f b h1) (Nat.le_add_right _ _)
theorem next_bit (f : Nat → Bool) (N : Nat) : ∀ d k, N = k + d → cntB f k < cntB f N → ∃ p, k ≤ p ∧ p < N ∧ f p = true ∧ cntB f p = cntB f k ∧ ∀ q, k ≤ q → q < p → f q = false
  | 0, k, h, hc => by rw [show N = k by omega] at hc; omega
  | d + 1, k, h, hc => by
    cases hf : f k with
    | true => exact ⟨k, Nat.le_refl _, by omega, hf, rfl, fun q h1 h2 => by omega⟩
    | false =>
      have e : cntB f (k + 1) = cntB f k := by rw [cntB, hf]; simp
      obtain ⟨p, h1, h2, h3, h4, h5⟩ := next_bit f N d (k + 1) (by omega) (by omega)
      refine ⟨p, by omega, h2, h3, by omega, fun q h6 h7 => ?_⟩
      by_cases e2 : q = k
      · rw [e2]; exact hf
      · exact h5 q (by omega) h7
theorem none_left {f : Nat → Bool} {k N q : Nat} (h : cntB f k = cntB f N) (hk : k ≤ q) (hq : q < N) : f q = false := by
  cases hf : f q with
  | false => rfl
  | true =>
    have h1 := cntB_mono f q hk
    have h2 := cntB_mono f (a := q + 1) N (by omega)
    have h3 : cntB f (q + 1) = cntB f q + 1 := by rw [cntB, hf]; simp
    omega
theorem celL_pst {w : Int} {f : Nat → Bool} {n m : Nat} (hf : ∀ i, n ≤ i → f i = false) (h : n ≤ m) : celL w f m = celL w f n := by
  obtain ⟨k, rfl⟩ : ∃ k, m = n + k := ⟨m - n, by omega⟩
  induction k with
  | zero => rfl
  | succ k ih => rw [← Nat.add_assoc, celL_step, hf (n + k) (by omega), if_neg (by simp)]; exact ih (by omega)

theorem cntB_gap {f g : Nat → Bool} (hgf : ∀ i, g i = true → f i = true) {s : Nat} : ∀ d, (∀ q, s ≤ q → q < s + d → f q = false) → cntB g (s + d) = cntB g s
  | 0, _ => rfl
  | d + 1, h => by
    have h1 : g (s + d) = false := by
      cases hg : g (s + d) with
      | false => rfl
      | true => exact absurd (hgf _ hg) (by rw [h (s + d) (by omega) (by omega)]; simp)
    rw [← Nat.add_assoc, cntB, h1, cntB_gap hgf d (fun q h2 h3 => h q h2 (by omega))]; rfl
theorem celL_gap {w : Int} {f g : Nat → Bool} (hgf : ∀ i, g i = true → f i = true) {s : Nat} : ∀ d, (∀ q, s ≤ q → q < s + d → f q = false) → celL w g (s + d) = celL w g s
  | 0, _ => rfl
  | d + 1, h => by
    have h1 : g (s + d) = false := by
      cases hg : g (s + d) with
      | false => rfl
      | true => exact absurd (hgf _ hg) (by rw [h (s + d) (by omega) (by omega)]; simp)
    rw [← Nat.add_assoc, celL_step, h1, if_neg (by simp), celL_gap hgf d (fun q h2 h3 => h q h2 (by omega))]
/-- What is known behind a look at cells of a field; of which cells something is new. -/
def mrg (F : Nat → Option Nat) (f : Nat → Bool) (cs : List Nat) : Nat → Option Nat := fun i => if f i then some (cs.getD i 0) else F i
def newB (F : Nat → Option Nat) (f : Nat → Bool) (cs : List Nat) : Nat → Bool := fun i => f i && !decide (F i = some (cs.getD i 0))
def mrgTo (F : Nat → Option Nat) (f : Nat → Bool) (cs : List Nat) (s : Nat) : Nat → Option Nat := fun i => if i < s then mrg F f cs i else F i
theorem newB_f {F : Nat → Option Nat} {f : Nat → Bool} {cs : List Nat} : ∀ i, newB F f cs i = true → f i = true := fun i h => by
  unfold newB at h
  simp only [Bool.and_eq_true] at h
  exact h.1
theorem mrgTo_zero (F : Nat → Option Nat) (f : Nat → Bool) (cs : List Nat) : mrgTo F f cs 0 = F := by
  funext i; unfold mrgTo; rw [if_neg (by omega)]
theorem mrgTo_gap {F : Nat → Option Nat} {f : Nat → Bool} {cs : List Nat} {s p : Nat} (hsp : s ≤ p) (h : ∀ q, s ≤ q → q < p → f q = false) : mrgTo F f cs p = mrgTo F f cs s := by
  funext i
  unfold mrgTo mrg
  by_cases h1 : i < s
  · rw [if_pos h1, if_pos (by omega)]
  · rw [if_neg h1]
    by_cases h2 : i < p
    · rw [if_pos h2, if_neg (by rw [h i (by omega) h2]; simp)]
    · rw [if_neg h2]
theorem mrgTo_full {F : Nat → Option Nat} {f : Nat → Bool} {cs : List Nat} {n : Nat} (h : ∀ i, n ≤ i → f i = false) : mrgTo F f cs n = mrg F f cs := by
  funext i
  unfold mrgTo
  by_cases h1 : i < n
  · rw [if_pos h1]
  · rw [if_neg h1]; unfold mrg; rw [if_neg (by rw [h i (by omega)]; simp)]
theorem mrgTo_same {F : Nat → Option Nat} {f : Nat → Bool} {cs : List Nat} {p g : Nat} (hf : f p = true) (hg : cs[p]? = some g) (hF : F p = some g) : mrgTo F f cs (p + 1) = mrgTo F f cs p := by
  funext i
  unfold mrgTo
  by_cases h1 : i < p
  · rw [if_pos h1, if_pos (by omega)]
  · rw [if_neg h1]
    by_cases h2 : i = p
    · subst h2; rw [if_pos (by omega)]; unfold mrg; rw [if_pos hf, hF]; simp [List.getD, hg]
    · rw [if_neg (by omega)]
theorem mrgTo_turn {F : Nat → Option Nat} {f : Nat → Bool} {cs : List Nat} {p g : Nat} (hf : f p = true) (hg : cs[p]? = some g) : mrgTo F f cs (p + 1) = updN (mrgTo F f cs p) p (some g) := by
  funext i
  unfold mrgTo updN
  by_cases h2 : i = p
  · subst h2; rw [if_pos (by omega), if_pos rfl]; unfold mrg; rw [if_pos hf]; simp [List.getD, hg]
  · rw [if_neg h2]
    dsimp only
    by_cases h1 : i < p
    · rw [if_pos h1, if_pos (by omega)]
    · rw [if_neg h1, if_neg (by omega)]
theorem newB_at {F : Nat → Option Nat} {f : Nat → Bool} {cs : List Nat} {p g : Nat} (hf : f p = true) (hg : cs[p]? = some g) : newB F f cs p = !decide (F p = some g) := by
  unfold newB; rw [hf]; simp [List.getD, hg]
end Go.Proofs.YteehbjdohionlaaDoor
