/- MaskTells: plain laws. -/
import Derived.Test.YthmiiamcmnciiaaDoorAP
import Derived.Test.YthmiiamcmnciiaaDoorAB
namespace Go.Proofs.YthmiiamcmnciiaaDoor
open Go Go.K

theorem idx_inj {w u v x y : Int} (hu : 0 ≤ u ∧ u < w) (hx : 0 ≤ x ∧ x < w) (h : v * w + u = y * w + x) : u = x ∧ v = y := by
  rcases Int.lt_trichotomy v y with h1 | h1 | h1
  · have := Int.mul_le_mul_of_nonneg_right (show v + 1 ≤ y by omega) (show 0 ≤ w by omega)
    rw [Int.add_mul, Int.one_mul] at this
    omega
  · subst h1; omega
  · have := Int.mul_le_mul_of_nonneg_right (show y + 1 ≤ v by omega) (show 0 ≤ w by omega)
    rw [Int.add_mul, Int.one_mul] at this
    omega
theorem gIn_bd {w h x y : Int} (hx : gIn w h x y = true) : 0 ≤ x ∧ x < w ∧ 0 ≤ y ∧ y < h := by
  simp only [gIn, gMay, btw, Bool.and_eq_true, decide_eq_true_eq] at hx
  omega
theorem gIn_num {w h : Int} {p n : Nat} (hg : gMay w h = true) (hn : (n : Int) = w * h) (hp : p < n) : gIn w h ((p : Int) % w) ((p : Int) / w) = true ∧ (p : Int) / w * w + (p : Int) % w = p := by
  obtain ⟨_, _, _, n4, n5, n6, n7, _⟩ := nwO_bd hg
  have h1 := Int.emod_nonneg (p : Int) (show w ≠ 0 by omega)
  have h2 := Int.emod_lt_of_pos (p : Int) (show 0 < w by omega)
  have h3 := Int.mul_ediv_add_emod (p : Int) w
  have h5 : (p : Int) / w * w + (p : Int) % w = p := by rw [Int.mul_comm]; exact h3
  have h6 : 0 ≤ (p : Int) / w := Int.ediv_nonneg (by omega) (by omega)
  have h7 : (p : Int) / w < h := by
    refine Int.ediv_lt_of_lt_mul (by omega) ?_
    rw [Int.mul_comm]; omega
  refine ⟨?_, h5⟩
  generalize (p : Int) % w = a at *
  generalize (p : Int) / w = b at *
  simp only [gIn, btw, Bool.and_eq_true, decide_eq_true_eq]
  exact ⟨⟨hg, by omega, by omega⟩, by omega, by omega⟩
theorem mHas_mSet (w h u v x y : Int) (b : Bool) (f : Nat → Bool) : mHas w h (mSet w h f u v b) x y = if (decide (u = x) && decide (v = y)) && gIn w h x y then b else mHas w h f x y := by
  unfold mHas mSet
  cases hx : gIn w h x y with
  | false => simp
  | true =>
    obtain ⟨x1, x2, x3, x4⟩ := gIn_bd hx
    by_cases hu : gIn w h u v = true
    · obtain ⟨u1, u2, u3, u4⟩ := gIn_bd hu
      rw [if_pos hu]
      by_cases he : u = x ∧ v = y
      · obtain ⟨rfl, rfl⟩ := he
        simp [upd]
      · have hv := Int.mul_nonneg (show 0 ≤ v by omega) (show 0 ≤ w by omega)
        have hy := Int.mul_nonneg (show 0 ≤ y by omega) (show 0 ≤ w by omega)
        have hne : (y * w + x).toNat ≠ (v * w + u).toNat := fun e => he (idx_inj (w := w) ⟨u1, u2⟩ ⟨x1, x2⟩ (by omega))
        have : (decide (u = x) && decide (v = y)) = false := by
          by_cases e1 : u = x
          · by_cases e2 : v = y
            · exact absurd ⟨e1, e2⟩ he
            · simp [e2]
          · simp [e1]
        rw [this]
        simp [upd, hne]
    · rw [if_neg hu]
      have : (decide (u = x) && decide (v = y)) = false := by
        by_cases e1 : u = x
        · by_cases e2 : v = y
          · subst e1 e2; exact absurd hx hu
          · simp [e2]
        · simp [e1]
      rw [this]; simp
theorem cntB_mono (f : Nat → Bool) {a : Nat} : ∀ b, a ≤ b → cntB f a ≤ cntB f b
  | 0, h => by rw [show a = 0 by omega]; exact Nat.le_refl _
  | b + 1, h => by
    rcases Nat.lt_or_ge b a with h1 | h1
    · rw [show a = b + 1 by omega]; exact Nat.le_refl _
    · exact Nat.le_trans (cntB_mono f b h1) (Nat.le_add_right _ _)
theorem next_bit (f : Nat → Bool) (N : Nat) : ∀ d k, N = k + d → cntB f k < cntB f N → ∃ p, k ≤ p ∧ p < N ∧ f p = true ∧ cntB f p = cntB f k ∧ ∀ q, k ≤ q → q < p → f q = false
  | 0, k, h, hc => by rw [show N = k by omega] at hc; omega
  | d + 1, k, h, hc => by
    cases hf : f k with
    | true => exact ⟨k, Nat.le_refl _, by omega, hf, rfl, fun q h1 h2 => by omega⟩
    | false =>
      have e : cntB f (k + 1) = cntB f k := by rw [cntB, hf]; simp
      obtain ⟨p, h1, h2, h3, h4, h5⟩ := next_bit f N d (k + 1) (by omega) (by omega)
      refine ⟨p, by omega, h2, h3, by omega, fun q h6 h7 => ?_⟩
      by_cases e2 : q = k
      · rw [e2]; exact hf
      · exact h5 q (by omega) h7
theorem none_left {f : Nat → Bool} {k N q : Nat} (h : cntB f k = cntB f N) (hk : k ≤ q) (hq : q < N) : f q = false := by
  cases hf : f q with
  | false => rfl
  | true =>
    have h1 := cntB_mono f q hk
    have h2 := cntB_mono f (a := q + 1) N (by omega)
    have h3 : cntB f (q + 1) = cntB f q + 1 := by rw [cntB, hf]; simp
    omega
/-- Whether a cell was told, when those ahead of a number have been. -/
def fnd (w h : Int) (f : Nat → Bool) (x y : Int) (k : Nat) : Bool := gIn w h x y && (decide (y * w + x < k) && f (y * w + x).toNat)
theorem fnd_step {w h : Int} {f : Nat → Bool} {n k p : Nat} (hg : gMay w h = true) (hn : (n : Int) = w * h) (hp : p < n) (hkp : k ≤ p) (hf : f p = true) (hno : ∀ q, k ≤ q → q < p → f q = false) (x y : Int) :
    (fnd w h f x y k || (decide ((p : Int) % w = x) && decide ((p : Int) / w = y))) = fnd w h f x y (p + 1) := by
  obtain ⟨i1, i2⟩ := gIn_num hg hn hp
  obtain ⟨u1, u2, u3, u4⟩ := gIn_bd i1
  unfold fnd
  cases hx : gIn w h x y with
  | false =>
    have : (decide ((p : Int) % w = x) && decide ((p : Int) / w = y)) = false := by
      by_cases e1 : (p : Int) % w = x
      · by_cases e2 : (p : Int) / w = y
        · rw [e1, e2] at i1; rw [hx] at i1; cases i1
        · simp [e2]
      · simp [e1]
    rw [this]; simp
  | true =>
    obtain ⟨x1, x2, x3, x4⟩ := gIn_bd hx
    have hy := Int.mul_nonneg (show 0 ≤ y by omega) (show 0 ≤ w by omega)
    obtain ⟨j, hj⟩ : ∃ j : Nat, (j : Int) = y * w + x := ⟨(y * w + x).toNat, by omega⟩
    rw [← hj, Int.toNat_natCast]
    by_cases he : j = p
    · subst he
      obtain ⟨e1, e2⟩ := idx_inj (w := w) (u := (j : Int) % w) (v := (j : Int) / w) (x := x) (y := y) ⟨u1, u2⟩ ⟨x1, x2⟩ (by omega)
      rw [e1, e2, hf, decide_eq_true (show (j : Int) < ((j + 1 : Nat) : Int) by omega)]
      simp
    · have : (decide ((p : Int) % w = x) && decide ((p : Int) / w = y)) = false := by
        by_cases e1 : (p : Int) % w = x
        · by_cases e2 : (p : Int) / w = y
          · rw [e1, e2] at i2; omega
          · simp [e2]
        · simp [e1]
      rw [this, Bool.or_false, Bool.true_and, Bool.true_and]
      by_cases h1 : j < k
      · rw [decide_eq_true (show (j : Int) < k by omega), decide_eq_true (show (j : Int) < ((p + 1 : Nat) : Int) by omega)]
      · rw [decide_eq_false (show ¬ (j : Int) < k by omega)]
        by_cases h2 : j < p
        · rw [hno j (by omega) h2]; simp
        · rw [decide_eq_false (show ¬ (j : Int) < ((p + 1 : Nat) : Int) by omega)]
theorem fnd_end {w h : Int} {f : Nat → Bool} {n k N : Nat} (hn : (n : Int) = w * h) (hN : n ≤ N) (hk : cntB f k = cntB f N) (x y : Int) : fnd w h f x y k = mHas w h f x y := by
  unfold fnd mHas
  cases hx : gIn w h x y with
  | false => rfl
  | true =>
    obtain ⟨i, e1, e2, e3, _⟩ := idx_lt hx
    rw [e1, Int.toNat_natCast, Bool.true_and, Bool.true_and]
    by_cases h1 : i < k
    · rw [decide_eq_true (show (i : Int) < k by omega)]; rfl
    · rw [none_left (f := f) (q := i) hk (by omega) (by omega)]; simp
theorem bitB_bytL {f : Nat → Bool} {n K : Nat} (hf : ∀ i, n ≤ i → f i = false) (hK : n ≤ 8 * K) : bitB (bytL f K) = f := by
  funext i
  by_cases h : i / 8 < K
  · rw [bitB_get (bytL_get h), Y8_tb, decide_eq_true (show i % 8 < 8 by omega), Bool.true_and, show 8 * (i / 8) + i % 8 = i by omega]
  · rw [bitB_past (by rw [bytL_len]; omega), hf i (by omega)]
theorem bytL_byt (f : Nat → Bool) (n : Nat) : Byt (bytL f n) := fun a ha => by
  obtain ⟨k, _, rfl⟩ := List.mem_map.1 ha
  exact Y8_lt f k
theorem mSet_same {w h : Int} {f : Nat → Bool} {x y : Int} {nw : Nat} (hg : gIn w h x y = true) (hn : w * h ≤ 64 * nw) : words (mSet w h f x y (!mHas w h f x y)) nw ≠ words f nw := fun e => by
  obtain ⟨i, e1, e2, e3, _⟩ := idx_lt hg
  have := words_inj e i (by omega)
  rw [mSet, if_pos hg, mHas, hg, e1, Int.toNat_natCast] at this
  simp [upd] at this
end Go.Proofs.YthmiiamcmnciiaaDoor
