/- Routes: joined paths; plain laws. -/
import Derived.Test.YtefjpccldjacfaaRB
namespace Go.Proofs.Ytefjpccldjacfaa
open Go Go.K Go.RowKit

def chkAt (cs : List Nat) (w h : Int) (Ps : List (Int × Int)) (j : Nat) : Int := chkS cs w h (Ps.getD (j - 1) (0, 0)) (Ps.getD j (0, 0)) (decide (j = 0))
theorem chkR_succ (cs : List Nat) (w h : Int) (Ps : List (Int × Int)) (f k : Nat) : chkR cs w h Ps (f + 1) k = if chkAt cs w h Ps k = 0 then chkR cs w h Ps f (k + 1) else chkAt cs w h Ps k := rfl
theorem chkR_split (cs : List Nat) (w h : Int) (Ps : List (Int × Int)) (g : Nat) : ∀ f k, chkR cs w h Ps (f + g) k = if chkR cs w h Ps f k = 0 then chkR cs w h Ps g (k + f) else chkR cs w h Ps f k
  | 0, k => by rw [Nat.zero_add, show chkR cs w h Ps 0 k = 0 from rfl, if_pos rfl, Nat.add_zero]
  | f + 1, k => by
    rw [show f + 1 + g = (f + g) + 1 by omega, chkR_succ, chkR_succ, chkR_split cs w h Ps g f (k + 1)]
    by_cases h0 : chkAt cs w h Ps k = 0
    · rw [if_pos h0, if_pos h0, show k + 1 + f = k + (f + 1) by omega]
    · rw [if_neg h0, if_neg h0, if_neg h0]
theorem chkR_congr {cs : List Nat} {w h : Int} {Ps Qs : List (Int × Int)} : ∀ {f k l : Nat}, (∀ i, i < f → chkAt cs w h Ps (k + i) = chkAt cs w h Qs (l + i)) → chkR cs w h Ps f k = chkR cs w h Qs f l
  | 0, _, _, _ => rfl
  | f + 1, k, l, hh => by
    rw [chkR_succ, chkR_succ, show chkAt cs w h Ps k = chkAt cs w h Qs l from hh 0 (by omega), chkR_congr (f := f) (k := k + 1) (l := l + 1) (fun i hi => by have := hh (i + 1) (by omega); rwa [show k + (i + 1) = k + 1 + i by omega, show l + (i + 1) = l + 1 + i by omega] at this)]
section
variable {A B : List (Int × Int)}
theorem jOk_of (hj : jOk A B = true) : 0 < A.length ∧ 0 < B.length ∧ A[A.length - 1]? = B[0]? := by simpa [jOk] using hj
theorem j_len (hj : jOk A B = true) : (A ++ B.drop 1).length = A.length + (B.length - 1) := by simp
theorem j_get1 {k : Nat} (hk : k < A.length) : (A ++ B.drop 1).getD k (0, 0) = A.getD k (0, 0) := by
  simp only [List.getD]; rw [List.getElem?_append_left hk]
theorem j_get2 (hj : jOk A B = true) {i : Nat} (hi : i < B.length) : (A ++ B.drop 1).getD (A.length - 1 + i) (0, 0) = B.getD i (0, 0) := by
  obtain ⟨h1, h2, h3⟩ := jOk_of hj
  cases i with
  | zero => rw [Nat.add_zero, j_get1 (by omega)]; simp only [List.getD]; rw [h3]
  | succ i =>
    simp only [List.getD]
    rw [List.getElem?_append_right (by omega), List.getElem?_drop, show 1 + (A.length - 1 + (i + 1) - A.length) = i + 1 by omega]
theorem chkPath_join (hj : jOk A B = true) (cs : List Nat) (w h : Int) : chkPath cs w h (A ++ B.drop 1) = if chkPath cs w h A = 0 then chkPath cs w h B else chkPath cs w h A := by
  obtain ⟨h1, h2, h3⟩ := jOk_of hj
  by_cases he : chkE w h cs.length = 0
  · have eJ : chkPath cs w h (A ++ B.drop 1) = chkR cs w h (A ++ B.drop 1) (A.length + (B.length - 1)) 0 := by rw [chkPath, if_pos he, j_len hj, if_neg (by omega)]
    have eA : chkPath cs w h A = chkR cs w h A A.length 0 := by rw [chkPath, if_pos he, if_neg (by omega)]
    have eB : chkPath cs w h B = chkR cs w h B B.length 0 := by rw [chkPath, if_pos he, if_neg (by omega)]
    have c1 : chkR cs w h (A ++ B.drop 1) A.length 0 = chkR cs w h A A.length 0 := chkR_congr (fun i hi => by
      unfold chkAt
      rw [Nat.zero_add, j_get1 hi, j_get1 (k := i - 1) (by omega)])
    have c2 : chkR cs w h (A ++ B.drop 1) (B.length - 1) A.length = chkR cs w h B (B.length - 1) 1 := chkR_congr (fun i hi => by
      unfold chkAt
      rw [show A.length + i - 1 = A.length - 1 + i by omega, show A.length + i = A.length - 1 + (i + 1) by omega, j_get2 hj (by omega), j_get2 hj (by omega), show 1 + i - 1 = i by omega, show 1 + i = i + 1 by omega]
      congr 1)
    rw [eJ, chkR_split, c1, Nat.zero_add, c2, ← eA]
    by_cases hA : chkPath cs w h A = 0
    · rw [if_pos hA, if_pos hA, eB]
      obtain ⟨_, _, _, hall⟩ := chkPath_zero hA
      have hl : A[A.length - 1]? = some A[A.length - 1] := List.getElem?_eq_getElem (by omega)
      obtain ⟨g1, g2, _⟩ := hall _ _ hl
      have hB0 : B.getD 0 (0, 0) = A[A.length - 1] := by simp only [List.getD]; rw [← h3, hl]; rfl
      have s0 : chkAt cs w h B 0 = 0 := by
        unfold chkAt
        rw [hB0]
        exact chkS_intro g1 g2 (fun hb => by simp at hb)
      rw [show B.length = (B.length - 1) + 1 by omega, chkR_succ, if_pos s0]
      simp
    · rw [if_neg hA, if_neg hA]
  · have eJ : chkPath cs w h (A ++ B.drop 1) = chkE w h cs.length := by rw [chkPath, if_neg he]
    have eA : chkPath cs w h A = chkE w h cs.length := by rw [chkPath, if_neg he]
    rw [eJ, eA, if_neg he]
theorem cstN_join (hj : jOk A B = true) (cs : List Nat) (w : Int) : ∀ i, i < B.length → cstN cs w (A ++ B.drop 1) (A.length - 1 + i) = cstN cs w A (A.length - 1) + cstN cs w B i
  | 0, _ => by
    have key : ∀ k, k < A.length → cstN cs w (A ++ B.drop 1) k = cstN cs w A k := by
      intro k
      induction k with
      | zero => intro _; rfl
      | succ k ih => intro hk; rw [cstN, cstN, ih (by omega), j_get1 hk]
    have := (jOk_of hj).1
    rw [Nat.add_zero, key _ (by omega)]; rfl
  | i + 1, hi => by
    rw [show A.length - 1 + (i + 1) = (A.length - 1 + i) + 1 by omega, cstN, cstN_join hj cs w i (by omega), show A.length - 1 + i + 1 = A.length - 1 + (i + 1) by omega, j_get2 hj hi, cstN]
    omega
theorem mvL_join (hj : jOk A B = true) : mvL (A ++ B.drop 1) (A.length - 1 + (B.length - 1)) = mvL A (A.length - 1) ++ mvL B (B.length - 1) := by
  obtain ⟨h1, h2, _⟩ := jOk_of hj
  have key : ∀ i, i < B.length → mvL (A ++ B.drop 1) (A.length - 1 + i) = mvL A (A.length - 1) ++ mvL B i := by
    intro i
    induction i with
    | zero =>
      intro _
      have k0 : ∀ k, k < A.length → mvL (A ++ B.drop 1) k = mvL A k := by
        intro k
        induction k with
        | zero => intro _; rfl
        | succ k ih =>
          intro hk
          rw [mvL_succ, mvL_succ, ih (by omega), mvD, mvD, j_get1 (by omega), j_get1 hk]
      rw [Nat.add_zero, k0 _ (by omega)]
      simp [mvL]
    | succ i ih =>
      intro hi
      rw [show A.length - 1 + (i + 1) = (A.length - 1 + i) + 1 by omega, mvL_succ, ih (by omega), mvL_succ, List.append_assoc]
      congr 2
      rw [mvD, mvD, show A.length - 1 + i + 1 = A.length - 1 + (i + 1) by omega, j_get2 hj (by omega), j_get2 hj hi]
  exact key _ (by omega)
theorem cost_join (hj : jOk A B = true) {cs : List Nat} {w h : Int} (hA : chkPath cs w h A = 0) (hB : chkPath cs w h B = 0) : chkPath cs w h (A ++ B.drop 1) = 0 ∧ costR cs w h (A ++ B.drop 1) = costR cs w h A + costR cs w h B := by
  obtain ⟨h1, h2, _⟩ := jOk_of hj
  have hJ : chkPath cs w h (A ++ B.drop 1) = 0 := by rw [chkPath_join hj, if_pos hA, hB]
  refine ⟨hJ, ?_⟩
  rw [costR, if_pos hJ, costR, if_pos hA, costR, if_pos hB, j_len hj, show A.length + (B.length - 1) - 1 = A.length - 1 + (B.length - 1) by omega, cstN_join hj cs w _ (by omega)]
end
end Go.Proofs.Ytefjpccldjacfaa
