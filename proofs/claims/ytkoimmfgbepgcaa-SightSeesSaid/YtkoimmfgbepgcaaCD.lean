/- Sight: plain laws of lines and of what is seen along them. -/
import Derived.Test.YtkoimmfgbepgcaaCB
import Derived.Test.YtkoimmfgbepgcaaCS
namespace Go.Proofs.Ytkoimmfgbepgcaa
open Go Go.K

/-- Only the last cell of a line is its end. -/
theorem linC_last {x y u v : Int} {n k : Nat} (hs : smp x y = true ∧ smp u v = true) (hn : gFar x y u v = n) (hk : k ≤ n) : linC x y u v n k = (u, v) ↔ k = n := by
  have hf : (u - x = n ∨ u - x = -(n : Int)) ∨ (v - y = n ∨ v - y = -(n : Int)) := by
    simp only [gFar, apX, apY, hs.1, hs.2, Bool.and_self, if_true] at hn
    omega
  have hb : -(n : Int) ≤ u - x ∧ u - x ≤ n ∧ -(n : Int) ≤ v - y ∧ v - y ≤ n := by
    simp only [gFar, apX, apY, hs.1, hs.2, Bool.and_self, if_true] at hn
    omega
  by_cases h0 : n = 0
  · have hk0 : k = 0 := by omega
    subst hk0 h0
    rw [linC_zero, Prod.mk.injEq]
    omega
  have hfull := fun j : Nat => nr_full (k := (j : Int)) (n := (n : Int)) (by omega)
  have hend : nr (n * (u - x)) n = u - x ∧ nr (n * (v - y)) n = v - y := by
    have e : ∀ a : Int, nr (n * a) n = a := fun a => by
      have e1 : a * (2 * (n : Int)) = 2 * (n * a) := by rw [Int.mul_left_comm, Int.mul_comm a]
      rw [nr, if_neg (by omega), show 2 * ((n : Int) * a) + n = n + a * (2 * n) by omega, Int.add_mul_ediv_right _ _ (by omega), Int.ediv_eq_zero_of_lt (by omega) (by omega)]
      omega
    exact ⟨e _, e _⟩
  constructor
  · intro h
    simp only [linC, Prod.mk.injEq] at h
    obtain ⟨h1, h2⟩ := h
    have h3 : nr (k * (u - x)) n = u - x := by omega
    have h4 : nr (k * (v - y)) n = v - y := by omega
    have hj := hfull k
    rcases hf with (h | h) | (h | h)
    · rw [h] at h3; omega
    · rw [h] at h3; omega
    · rw [h] at h4; omega
    · rw [h] at h4; omega
  · intro h
    subst h
    simp only [linC, Prod.mk.injEq]
    omega
theorem wkN_ok (wl : Nat → Bool) : ∀ f k, (∀ i, k ≤ i → i + 1 < wkN wl f k → wl i = false) ∧ (wkN wl f k < k + f → wl (wkN wl f k - 1) = true ∧ k < wkN wl f k)
  | 0, k => ⟨fun i h1 h2 => by simp only [wkN] at h2; omega, fun h => by simp only [wkN] at h; omega⟩
  | f + 1, k => by
    have ih := wkN_ok wl f (k + 1)
    have hb := wkN_bd wl f (k + 1)
    simp only [wkN]
    split
    · rename_i h1
      exact ⟨fun i h2 h3 => by omega, fun _ => ⟨by simpa using h1, by omega⟩⟩
    · rename_i h1
      refine ⟨fun i h2 h3 => ?_, fun h => ?_⟩
      · by_cases h4 : i = k
        · subst h4; simpa using h1
        · exact ih.1 i (by omega) h3
      · have := ih.2 (by omega)
        exact ⟨this.1, by omega⟩
/-- What is seen along a line: its cells up to the first wall. -/
theorem seeN_ok {cs : List Nat} {w x y u v : Int} {n : Nat} : (∀ i, 1 ≤ i → i + 1 < seeN cs w x y u v n → wlC cs w (linC x y u v n i) = false) ∧ (seeN cs w x y u v n < n + 1 → wlC cs w (linC x y u v n (seeN cs w x y u v n - 1)) = true ∧ 1 < seeN cs w x y u v n) := by
  have := wkN_ok (fun k => wlC cs w (linC x y u v n k)) n 1
  refine ⟨this.1, fun h => this.2 (by unfold seeN at h; omega)⟩
theorem seesB_ok {cs : List Nat} {w x y u v : Int} {n : Nat} (hs : smp x y = true ∧ smp u v = true) (hn : gFar x y u v = n) : seesB cs w x y u v n = decide (seeN cs w x y u v n = n + 1) := by
  have hb := seeN_bd cs w x y u v n
  unfold seesB
  have := linC_last (k := seeN cs w x y u v n - 1) hs hn (by omega)
  congr 1
  apply propext
  rw [this]
  omega
theorem seen_ray {cs : List Nat} {w h x y u v : Int} {n k rad : Nat} (hn : gFar x y u v = n) (hr : n ≤ rad) (hs : smp x y = true ∧ smp u v = true) (hb : gIn w h u v = true) (hk : k < seeN cs w x y u v n) : Seen cs w h rad [(x, y)] (linC x y u v n k) := by
  have hfb := (gFar_bd x y u v (by simp [apE, hs.1, hs.2])).2
  refine ⟨(x, y), List.mem_singleton_self _, (u, v), hb, by dsimp only; omega, ?_⟩
  dsimp only
  rw [hn, Int.toNat_natCast]
  exact List.mem_of_getElem? (seeL_get hk)
end Go.Proofs.Ytkoimmfgbepgcaa
