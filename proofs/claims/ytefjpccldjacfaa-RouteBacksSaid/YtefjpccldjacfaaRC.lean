/- Routes: paths and their moves, there and back; plain laws. -/
import Derived.Test.YtefjpccldjacfaaRP
import Derived.Test.YtefjpccldjacfaaRB
namespace Go.Proofs.Ytefjpccldjacfaa
open Go Go.K Go.RowKit

theorem way_vals : wayX 0 = 0 ∧ wayY 0 = -1 ∧ wayX 1 = 1 ∧ wayY 1 = 0 ∧ wayX 2 = 0 ∧ wayY 2 = 1 ∧ wayX 3 = -1 ∧ wayY 3 = 0 := by decide
theorem dirN_step {x y : Int} {m : Nat} (hm : m < 4) : dirN x y (x + wayX (m : Nat)) (y + wayY (m : Nat)) = m := by
  have h4 : m = 0 ∨ m = 1 ∨ m = 2 ∨ m = 3 := by omega
  obtain ⟨a0, b0, a1, b1, a2, b2, a3, b3⟩ := way_vals
  rcases h4 with rfl | rfl | rfl | rfl
  · show dirN x y (x + wayX 0) (y + wayY 0) = 0
    rw [a0, b0, dirN_eq, if_pos (by omega)]
  · show dirN x y (x + wayX 1) (y + wayY 1) = 1
    rw [a1, b1, dirN_eq, if_neg (by omega), if_pos (by omega)]
  · show dirN x y (x + wayX 2) (y + wayY 2) = 2
    rw [a2, b2, dirN_eq, if_neg (by omega), if_neg (by omega), if_pos (by omega)]
  · show dirN x y (x + wayX 3) (y + wayY 3) = 3
    rw [a3, b3, dirN_eq, if_neg (by omega), if_neg (by omega), if_neg (by omega), if_pos (by omega)]
theorem gDir_dirN {x y u v : Int} (h : gDirE x y u v = 0) : gDir x y u v = dirN x y u v ∧ ¬ dirN x y u v < 0 := by
  unfold gDirE at h
  split at h
  · rename_i hs
    split at h
    · omega
    · rename_i hd; exact ⟨by rw [gDir, if_pos hs, if_neg hd], hd⟩
  · omega
theorem step_dir {x y u v : Int} (h : gDirE x y u v = 0) : u = x + wayX ((gDir x y u v).toNat : Nat) ∧ v = y + wayY ((gDir x y u v).toNat : Nat) := by
  obtain ⟨h1, h2⟩ := gDir_dirN h
  obtain ⟨a0, b0, a1, b1, a2, b2, a3, b3⟩ := way_vals
  rw [h1]
  rcases dirN_key h2 with ⟨k, e1, e2⟩ | ⟨k, e1, e2⟩ | ⟨k, e1, e2⟩ | ⟨k, e1, e2⟩ <;> rw [k]
  · show u = x + wayX 0 ∧ v = y + wayY 0; omega
  · show u = x + wayX 1 ∧ v = y + wayY 1; omega
  · show u = x + wayX 2 ∧ v = y + wayY 2; omega
  · show u = x + wayX 3 ∧ v = y + wayY 3; omega
theorem mvL_getD (Ps : List (Int × Int)) {k q : Nat} (hq : q < k) : (mvL Ps k).getD q 0 = mvD Ps q := by simp [List.getD, mvL_get Ps hq]
theorem pos_path {cs : List Nat} {w h : Int} {Ps : List (Int × Int)} (h0 : chkPath cs w h Ps = 0) : ∀ k, k < Ps.length → pos (Ps.getD 0 (0, 0)) (mvL Ps (Ps.length - 1)) k = Ps.getD k (0, 0)
  | 0, _ => rfl
  | k + 1, hk => by
    rw [pos, pos_path h0 k (by omega), mvL_getD Ps (by omega)]
    obtain ⟨e1, e2⟩ := step_dir (adj_of h0 hk)
    exact Prod.ext e1.symm e2.symm
theorem clR_intro {w h : Int} {c : Int × Int} {ms : List Nat} : ∀ {f k : Nat}, (∀ j, k ≤ j → j < k + f → ms.getD j 0 < 4 ∧ gIn w h (pos c ms (j + 1)).1 (pos c ms (j + 1)).2 = true) → clR w h c ms f k = 0
  | 0, _, _ => rfl
  | f + 1, k, hh => by
    obtain ⟨h1, h2⟩ := hh k (Nat.le_refl _) (by omega)
    rw [clR, if_neg (by omega), h2, if_pos rfl]
    exact clR_intro (fun j g1 g2 => hh j (by omega) (by omega))
theorem clR_zero {w h : Int} {c : Int × Int} {ms : List Nat} : ∀ {f k : Nat}, clR w h c ms f k = 0 → ∀ j, k ≤ j → j < k + f → ms.getD j 0 < 4 ∧ gIn w h (pos c ms (j + 1)).1 (pos c ms (j + 1)).2 = true
  | 0, _, _, j, g1, g2 => by omega
  | f + 1, k, hh, j, g1, g2 => by
    rw [clR] at hh
    split at hh
    · omega
    · rename_i hm
      split at hh
      · rename_i hi
        rcases Nat.eq_or_lt_of_le g1 with rfl | g3
        · exact ⟨by omega, hi⟩
        · exact clR_zero hh j g3 (by omega)
      · omega
/-- The moves of a path lead along it. -/
theorem path_there {cs : List Nat} {w h : Int} {Ps : List (Int × Int)} (h0 : chkPath cs w h Ps = 0) : clE w h (Ps.getD 0 (0, 0)) (mvL Ps (Ps.length - 1)) = 0 ∧ clL (Ps.getD 0 (0, 0)) (mvL Ps (Ps.length - 1)) (Ps.length - 1) = Ps := by
  obtain ⟨_, _, hp, hall⟩ := chkPath_zero h0
  have hin : ∀ k, k < Ps.length → gIn w h (Ps.getD k (0, 0)).1 (Ps.getD k (0, 0)).2 = true := fun k hk => by
    have h1 : Ps[k]? = some Ps[k] := List.getElem?_eq_getElem hk
    rw [show Ps.getD k (0, 0) = Ps[k] by simp [List.getD, h1]]
    exact (hall _ _ h1).1
  refine ⟨?_, ?_⟩
  · rw [clE, hin 0 hp, if_pos rfl, mvL_len]
    refine clR_intro (fun j _ hj => ?_)
    rw [mvL_getD Ps (by omega), pos_path h0 (j + 1) (by omega)]
    exact ⟨by have := mvD_bd Ps j; omega, hin _ (by omega)⟩
  · apply List.ext_getElem?
    intro k
    by_cases hk : k < Ps.length
    · have h1 : Ps[k]? = some Ps[k] := List.getElem?_eq_getElem hk
      rw [h1, clL, List.getElem?_map, List.getElem?_range (by omega)]
      simp only [Option.map_some, Option.some.injEq]
      rw [pos_path h0 k hk]
      simp [List.getD, h1]
    · rw [List.getElem?_eq_none (by simp [clL]; omega), List.getElem?_eq_none (by omega)]
/-- The cells that moves lead to have these moves. -/
theorem path_back {w h : Int} {c : Int × Int} {ms : List Nat} (h0 : clE w h c ms = 0) : mvE (clL c ms ms.length) = 0 ∧ mvL (clL c ms ms.length) ms.length = ms := by
  unfold clE at h0
  split at h0
  · rename_i hc
    have hz := clR_zero h0
    have hget : ∀ k, k ≤ ms.length → (clL c ms ms.length).getD k (0, 0) = pos c ms k := fun k hk => by
      simp [List.getD, clL, show k < ms.length + 1 by omega]
    have hin : ∀ k, k ≤ ms.length → gIn w h (pos c ms k).1 (pos c ms k).2 = true := fun k hk => by
      cases k with
      | zero => exact hc
      | succ k => exact (hz k (Nat.zero_le _) (by omega)).2
    have hdir : ∀ k, k < ms.length → gDirE (pos c ms k).1 (pos c ms k).2 (pos c ms (k + 1)).1 (pos c ms (k + 1)).2 = 0 ∧ gDir (pos c ms k).1 (pos c ms k).2 (pos c ms (k + 1)).1 (pos c ms (k + 1)).2 = (ms.getD k 0 : Nat) := fun k hk => by
      have h1 := smp_in (hin k (by omega))
      have h2 := smp_in (hin (k + 1) (by omega))
      have h3 : dirN (pos c ms k).1 (pos c ms k).2 (pos c ms (k + 1)).1 (pos c ms (k + 1)).2 = (ms.getD k 0 : Nat) := dirN_step (hz k (Nat.zero_le _) (by omega)).1
      have h4 : ¬ dirN (pos c ms k).1 (pos c ms k).2 (pos c ms (k + 1)).1 (pos c ms (k + 1)).2 < 0 := by rw [h3]; omega
      have hs : (smp (pos c ms k).1 (pos c ms k).2 && smp (pos c ms (k + 1)).1 (pos c ms (k + 1)).2) = true := by rw [h1, h2]; rfl
      exact ⟨by rw [gDirE, if_pos hs, if_neg h4], by rw [gDir, if_pos hs, if_neg h4, h3]⟩
    have hlen : (clL c ms ms.length).length = ms.length + 1 := by simp [clL]
    refine ⟨?_, ?_⟩
    · rw [mvE, if_neg (by omega), hget 0 (Nat.zero_le _), smp_in (hin 0 (Nat.zero_le _)), if_pos rfl, hlen]
      refine mvR_zero (fun j _ hj => ?_)
      rw [hget j (by omega), hget (j + 1) (by omega)]
      exact (hdir j (by omega)).1
    · apply List.ext_getElem?
      intro k
      by_cases hk : k < ms.length
      · have h1 : ms[k]? = some ms[k] := List.getElem?_eq_getElem hk
        rw [mvL_get _ hk, h1, mvD, hget k (by omega), hget (k + 1) (by omega), (hdir k hk).2]
        simp [List.getD, h1]
      · rw [List.getElem?_eq_none (by rw [mvL_len]; omega), List.getElem?_eq_none (by omega)]
  · omega
end Go.Proofs.Ytefjpccldjacfaa
