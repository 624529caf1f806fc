/- Routes: paths the other way round; plain laws. -/
import Derived.Test.YtefjpccldjacfaaR3
namespace Go.Proofs.Ytefjpccldjacfaa
open Go Go.K Go.RowKit

theorem chkS_intro {cs : List Nat} {w h : Int} {a c : Int × Int} {b : Bool} (h1 : gIn w h c.1 c.2 = true) (h2 : wlC cs w c = false) (h3 : b = false → gDirE a.1 a.2 c.1 c.2 = 0) : chkS cs w h a c b = 0 := by
  unfold chkS
  rw [if_pos h1, if_neg (fun g => g.2 (h3 g.1)), if_neg (by simp [h2])]
theorem chkR_intro {cs : List Nat} {w h : Int} {Ps : List (Int × Int)} : ∀ {f k : Nat}, (∀ j, k ≤ j → j < k + f → chkS cs w h (Ps.getD (j - 1) (0, 0)) (Ps.getD j (0, 0)) (decide (j = 0)) = 0) → chkR cs w h Ps f k = 0
  | 0, _, _ => rfl
  | f + 1, k, h => by
    rw [chkR, if_pos (h k (Nat.le_refl _) (by omega))]
    exact chkR_intro (fun j h1 h2 => h j (by omega) (by omega))
theorem chkPath_intro {cs : List Nat} {w h : Int} {Ps : List (Int × Int)} (hm : gMay w h = true) (hl : (cs.length : Int) = w * h) (hp : 0 < Ps.length)
    (hall : ∀ (j : Nat) (c : Int × Int), Ps[j]? = some c → gIn w h c.1 c.2 = true ∧ wlC cs w c = false ∧ ∀ a, 0 < j → Ps[j - 1]? = some a → gDirE a.1 a.2 c.1 c.2 = 0) : chkPath cs w h Ps = 0 := by
  have he : chkE w h cs.length = 0 := by rw [chkE, if_pos hm, if_pos hl]
  rw [chkPath, if_pos he, if_neg (by omega)]
  refine chkR_intro (fun j _ hj => ?_)
  rw [Nat.zero_add] at hj
  have hc : Ps[j]? = some Ps[j] := List.getElem?_eq_getElem hj
  obtain ⟨h1, h2, h3⟩ := hall j _ hc
  rw [show Ps.getD j (0, 0) = Ps[j] by simp [List.getD, hc]]
  refine chkS_intro h1 h2 (fun hb => ?_)
  have hj0 : j ≠ 0 := by simpa using hb
  have ha : Ps[j - 1]? = some Ps[j - 1] := List.getElem?_eq_getElem (by omega)
  rw [show Ps.getD (j - 1) (0, 0) = Ps[j - 1] by simp [List.getD, ha]]
  exact h3 _ (by omega) ha
theorem isDir_0 {x y u v : Int} : isDir x y u v 0 = (decide (x = u) && decide (y - 1 = v)) := by
  unfold isDir; rw [show wayX 0 = 0 from rfl, show wayY 0 = -1 from rfl, Int.add_zero]; rfl
theorem isDir_1 {x y u v : Int} : isDir x y u v 1 = (decide (x + 1 = u) && decide (y = v)) := by
  unfold isDir; rw [show wayX 1 = 1 from rfl, show wayY 1 = 0 from rfl, Int.add_zero]
theorem isDir_2 {x y u v : Int} : isDir x y u v 2 = (decide (x = u) && decide (y + 1 = v)) := by
  unfold isDir; rw [show wayX 2 = 0 from rfl, show wayY 2 = 1 from rfl, Int.add_zero]
theorem isDir_3 {x y u v : Int} : isDir x y u v 3 = (decide (x - 1 = u) && decide (y = v)) := by
  unfold isDir; rw [show wayX 3 = -1 from rfl, show wayY 3 = 0 from rfl, Int.add_zero]; rfl
theorem dirN_key {x y u v : Int} (hd : ¬ dirN x y u v < 0) : (dirN x y u v = 0 ∧ u = x ∧ v = y - 1) ∨ (dirN x y u v = 1 ∧ u = x + 1 ∧ v = y) ∨ (dirN x y u v = 2 ∧ u = x ∧ v = y + 1) ∨ (dirN x y u v = 3 ∧ u = x - 1 ∧ v = y) := by
  unfold dirN at hd ⊢
  rw [isDir_0, isDir_1, isDir_2, isDir_3] at hd ⊢
  simp only [Bool.and_eq_true, decide_eq_true_eq] at hd ⊢
  split at hd
  · rename_i h; rw [if_pos h]; omega
  · rename_i h0; rw [if_neg h0]
    split at hd
    · rename_i h; rw [if_pos h]; omega
    · rename_i h1; rw [if_neg h1]
      split at hd
      · rename_i h; rw [if_pos h]; omega
      · rename_i h2; rw [if_neg h2]
        split at hd
        · rename_i h; rw [if_pos h]; omega
        · omega
theorem dirN_eq (x y u v : Int) : dirN x y u v = if x = u ∧ y - 1 = v then 0 else if x + 1 = u ∧ y = v then 1 else if x = u ∧ y + 1 = v then 2 else if x - 1 = u ∧ y = v then 3 else -1 := by
  unfold dirN
  rw [isDir_0, isDir_1, isDir_2, isDir_3]
  simp only [Bool.and_eq_true, decide_eq_true_eq]
theorem dirN_back {x y u v : Int} (hd : ¬ dirN x y u v < 0) : dirN u v x y = (dirN x y u v + 2) % 4 := by
  rcases dirN_key hd with ⟨h1, h2, h3⟩ | ⟨h1, h2, h3⟩ | ⟨h1, h2, h3⟩ | ⟨h1, h2, h3⟩
  · rw [h1, dirN_eq, if_neg (by omega), if_neg (by omega), if_pos (by omega)]; rfl
  · rw [h1, dirN_eq, if_neg (by omega), if_neg (by omega), if_neg (by omega), if_pos (by omega)]; rfl
  · rw [h1, dirN_eq, if_pos (by omega)]; rfl
  · rw [h1, dirN_eq, if_neg (by omega), if_pos (by omega)]; rfl
theorem dir_turn {x y u v : Int} (h : gDirE x y u v = 0) : gDirE u v x y = 0 ∧ gDir u v x y = (gDir x y u v + 2) % 4 ∧ smp x y = true ∧ smp u v = true := by
  unfold gDirE at h
  split at h
  · rename_i hs
    rw [Bool.and_eq_true] at hs
    split at h
    · omega
    · rename_i hd
      have hs2 : (smp u v && smp x y) = true := by rw [hs.1, hs.2]; rfl
      have hs1 : (smp x y && smp u v) = true := by rw [hs.1, hs.2]; rfl
      have back := dirN_back hd
      have hb : ¬ dirN u v x y < 0 := by rw [back]; omega
      refine ⟨by rw [gDirE, if_pos hs2, if_neg hb], ?_, hs.1, hs.2⟩
      rw [gDir, if_pos hs2, if_neg hb, gDir, if_pos hs1, if_neg hd, back]
  · omega
theorem chkPath_turn {cs : List Nat} {w h : Int} {Ps : List (Int × Int)} (h0 : chkPath cs w h Ps = 0) : chkPath cs w h Ps.reverse = 0 := by
  obtain ⟨hm, hl, hp, hall⟩ := chkPath_zero h0
  refine chkPath_intro hm hl (by simpa using hp) (fun j c hc => ?_)
  have hj := (List.getElem?_eq_some_iff.1 hc).1
  rw [List.length_reverse] at hj
  rw [List.getElem?_reverse (by omega)] at hc
  obtain ⟨h1, h2, _⟩ := hall _ _ hc
  refine ⟨h1, h2, fun a hj0 ha => ?_⟩
  rw [List.getElem?_reverse (by omega)] at ha
  obtain ⟨_, _, h3⟩ := hall _ _ ha
  have := h3 c (by omega) (by rw [← hc]; congr 1; omega)
  exact (dir_turn this).1
theorem chkPath_turn_iff (cs : List Nat) (w h : Int) (Ps : List (Int × Int)) : chkPath cs w h Ps.reverse = 0 ↔ chkPath cs w h Ps = 0 :=
  ⟨fun h => by have := chkPath_turn h; rwa [List.reverse_reverse] at this, chkPath_turn⟩
/-- What the cells up to the k-th cost, the first one among them. -/
theorem cstN_sum (cs : List Nat) (w : Int) (Ps : List (Int × Int)) : ∀ k, k < Ps.length → cstN cs w Ps k + cstC cs w (Ps.getD 0 (0, 0)) = ((Ps.take (k + 1)).map (cstC cs w)).sum
  | 0, h => by
    match Ps, h with
    | c :: r, _ => simp [cstN]
  | k + 1, h => by
    have := cstN_sum cs w Ps k (by omega)
    have hk : Ps[k + 1]? = some Ps[k + 1] := List.getElem?_eq_getElem h
    rw [List.take_add_one, hk, List.map_append, List.sum_append, ← this, cstN, show Ps.getD (k + 1) (0, 0) = Ps[k + 1] by simp [List.getD, hk]]
    simp; omega
theorem cost_turn (cs : List Nat) (w : Int) {Ps : List (Int × Int)} (hp : 0 < Ps.length) : cstN cs w Ps (Ps.length - 1) + cstC cs w (Ps.getD 0 (0, 0)) = cstN cs w Ps.reverse (Ps.length - 1) + cstC cs w (Ps.getD (Ps.length - 1) (0, 0)) := by
  have h1 := cstN_sum cs w Ps (Ps.length - 1) (by omega)
  have h2 := cstN_sum cs w Ps.reverse (Ps.length - 1) (by rw [List.length_reverse]; omega)
  rw [List.take_of_length_le (by omega)] at h1
  rw [List.take_of_length_le (by rw [List.length_reverse]; omega), List.map_reverse, List.sum_reverse] at h2
  have h3 : Ps.reverse.getD 0 (0, 0) = Ps.getD (Ps.length - 1) (0, 0) := by
    simp only [List.getD]
    rw [List.getElem?_reverse hp]; rfl
  rw [h3] at h2
  omega
end Go.Proofs.Ytefjpccldjacfaa
