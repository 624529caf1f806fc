/- Routes: the moves of a path the other way round; plain laws. -/
import Derived.Test.YtefjpccldjacfaaR6
import Derived.Test.YtefjpccldjacfaaRA
namespace Go.Proofs.Ytefjpccldjacfaa
open Go Go.K Go.RowKit

theorem mvR_zero {Ps : List (Int × Int)} : ∀ {f k : Nat}, (∀ j, k ≤ j → j < k + f → gDirE (Ps.getD j (0, 0)).1 (Ps.getD j (0, 0)).2 (Ps.getD (j + 1) (0, 0)).1 (Ps.getD (j + 1) (0, 0)).2 = 0) → mvR Ps f k = 0
  | 0, _, _ => rfl
  | f + 1, k, h => by
    rw [mvR, if_pos (h k (Nat.le_refl _) (by omega))]
    exact mvR_zero (fun j h1 h2 => h j (by omega) (by omega))
theorem adj_of {cs : List Nat} {w h : Int} {Ps : List (Int × Int)} (h0 : chkPath cs w h Ps = 0) {j : Nat} (hj : j + 1 < Ps.length) : gDirE (Ps.getD j (0, 0)).1 (Ps.getD j (0, 0)).2 (Ps.getD (j + 1) (0, 0)).1 (Ps.getD (j + 1) (0, 0)).2 = 0 := by
  obtain ⟨_, _, _, hall⟩ := chkPath_zero h0
  have h1 : Ps[j + 1]? = some Ps[j + 1] := List.getElem?_eq_getElem hj
  have h2 : Ps[j]? = some Ps[j] := List.getElem?_eq_getElem (by omega)
  obtain ⟨_, _, h3⟩ := hall _ _ h1
  rw [show Ps.getD j (0, 0) = Ps[j] by simp [List.getD, h2], show Ps.getD (j + 1) (0, 0) = Ps[j + 1] by simp [List.getD, h1]]
  exact h3 _ (by omega) h2
theorem mvE_ok {cs : List Nat} {w h : Int} {Ps : List (Int × Int)} (h0 : chkPath cs w h Ps = 0) : mvE Ps = 0 := by
  obtain ⟨_, _, hp, hall⟩ := chkPath_zero h0
  have h1 : Ps[0]? = some Ps[0] := List.getElem?_eq_getElem hp
  obtain ⟨hi, _, _⟩ := hall _ _ h1
  rw [mvE, if_neg (by omega), show Ps.getD 0 (0, 0) = Ps[0] by simp [List.getD, h1], smp_in hi, if_pos rfl]
  exact mvR_zero (fun j _ hj => adj_of h0 (by omega))
theorem mvL_get (Ps : List (Int × Int)) {k q : Nat} (hq : q < k) : (mvL Ps k)[q]? = some (mvD Ps q) := by simp [mvL, hq]
theorem mvL_len (Ps : List (Int × Int)) (k : Nat) : (mvL Ps k).length = k := by simp [mvL]
theorem mvD_bd (Ps : List (Int × Int)) (q : Nat) : mvD Ps q ≤ 3 := by
  have := gDir_bd (Ps.getD q (0, 0)).1 (Ps.getD q (0, 0)).2 (Ps.getD (q + 1) (0, 0)).1 (Ps.getD (q + 1) (0, 0)).2
  unfold mvD; omega
theorem getD_rev {Ps : List (Int × Int)} {j : Nat} (hj : j < Ps.length) : Ps.reverse.getD j (0, 0) = Ps.getD (Ps.length - 1 - j) (0, 0) := by
  simp only [List.getD]
  rw [List.getElem?_reverse hj]
theorem mvD_turn {cs : List Nat} {w h : Int} {Ps : List (Int × Int)} (h0 : chkPath cs w h Ps = 0) {q : Nat} (hq : q + 1 < Ps.length) : mvD Ps.reverse (Ps.length - 1 - 1 - q) = (mvD Ps q + 2) % 4 := by
  have h1 := adj_of h0 hq
  obtain ⟨_, h2, _, _⟩ := dir_turn h1
  have h3 := gDir_bd (Ps.getD q (0, 0)).1 (Ps.getD q (0, 0)).2 (Ps.getD (q + 1) (0, 0)).1 (Ps.getD (q + 1) (0, 0)).2
  unfold mvD
  rw [getD_rev (by omega), getD_rev (by omega), show Ps.length - 1 - (Ps.length - 1 - 1 - q) = q + 1 by omega, show Ps.length - 1 - (Ps.length - 1 - 1 - q + 1) = q by omega, h2]
  omega
end Go.Proofs.Ytefjpccldjacfaa
