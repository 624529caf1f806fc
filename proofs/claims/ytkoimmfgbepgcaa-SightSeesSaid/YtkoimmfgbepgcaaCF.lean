/- Sight: plain laws: what is near, and what hangs on what is seen. -/
import Derived.Test.YtkoimmfgbepgcaaCD
namespace Go.Proofs.Ytkoimmfgbepgcaa
open Go Go.K

theorem far_of {x y u v : Int} (hs : smp x y = true ∧ smp u v = true) : gFar x y u v = max (max x u - min x u) (max y v - min y v) ∧ gWalk x y u v = (max x u - min x u) + (max y v - min y v) := by
  simp only [gFar, gWalk, apX, apY, hs.1, hs.2, Bool.and_self, if_true, and_self]
theorem lin_btw {x y u v : Int} {n k : Nat} (hn : 0 < n) (hk : k ≤ n) : (x ≤ u → x ≤ (linC x y u v n k).1 ∧ (linC x y u v n k).1 ≤ u) ∧ (u ≤ x → u ≤ (linC x y u v n k).1 ∧ (linC x y u v n k).1 ≤ x) ∧ (y ≤ v → y ≤ (linC x y u v n k).2 ∧ (linC x y u v n k).2 ≤ v) ∧ (v ≤ y → v ≤ (linC x y u v n k).2 ∧ (linC x y u v n k).2 ≤ y) := by
  have h1 := nr_btw (k := (k : Int)) (all := u - x) (n := (n : Int)) (by omega) (by omega)
  have h2 := nr_btw (k := (k : Int)) (all := v - y) (n := (n : Int)) (by omega) (by omega)
  simp only [linC]
  obtain ⟨q1, e1⟩ : ∃ q, q = nr (k * (u - x)) n := ⟨_, rfl⟩
  obtain ⟨q2, e2⟩ : ∃ q, q = nr (k * (v - y)) n := ⟨_, rfl⟩
  rw [← e1] at h1 ⊢
  rw [← e2] at h2 ⊢
  refine ⟨fun h => ?_, fun h => ?_, fun h => ?_, fun h => ?_⟩
  · have := h1.1 (by omega); omega
  · have := h1.2 (by omega); omega
  · have := h2.1 (by omega); omega
  · have := h2.2 (by omega); omega
/-- No cell of a line is farther away than its end. -/
theorem lin_far {x y u v : Int} {n k : Nat} (hs : smp x y = true ∧ smp u v = true) (hc : smp (linC x y u v n k).1 (linC x y u v n k).2 = true) (hn : gFar x y u v = n) (hk : k ≤ n) : gFar x y (linC x y u v n k).1 (linC x y u v n k).2 ≤ n := by
  rcases Nat.eq_zero_or_pos n with h0 | h0
  · have : k = 0 := by omega
    subst this
    subst h0
    rw [linC_zero] at hc ⊢
    rw [(far_of ⟨hs.1, hc⟩).1]; simp only; omega
  · obtain ⟨b1, b2, b3, b4⟩ := lin_btw (x := x) (y := y) (u := u) (v := v) h0 hk
    rw [(far_of ⟨hs.1, hc⟩).1]
    rw [(far_of hs).1] at hn
    omega
theorem smp_in {w h x y : Int} (hi : gIn w h x y = true) : smp x y = true := by
  simp only [gIn, gMay, btw, Bool.and_eq_true, decide_eq_true_eq] at hi
  simp only [smp, btw, Bool.and_eq_true, decide_eq_true_eq]; omega
theorem seeL_mem {cs : List Nat} {w x y u v : Int} {n : Nat} {c : Int × Int} : c ∈ seeL cs w x y u v n ↔ ∃ k, k < seeN cs w x y u v n ∧ c = linC x y u v n k := by
  constructor
  · intro hc
    obtain ⟨k, hk⟩ := List.mem_iff_getElem?.1 hc
    have hlen := (List.getElem?_eq_some_iff.1 hk).1
    rw [seeL_len] at hlen
    rw [seeL_get hlen] at hk
    exact ⟨k, hlen, (Option.some.inj hk).symm⟩
  · rintro ⟨k, hk, rfl⟩
    exact List.mem_of_getElem? (seeL_get hk)
/-- A ray that reaches its end. -/
theorem seen_end {cs : List Nat} {w h x y u v : Int} {n rad : Nat} (ha : gIn w h x y = true) (hb : gIn w h u v = true) (hn : gFar x y u v = n) (hr : n ≤ rad) (he : seeN cs w x y u v n = n + 1) : Seen cs w h rad [(x, y)] (u, v) := by
  have hs : smp x y = true ∧ smp u v = true := ⟨smp_in ha, smp_in hb⟩
  have := seen_ray (cs := cs) (k := n) hn hr hs hb (by omega)
  rwa [(linC_last hs hn (Nat.le_refl n)).2 rfl] at this
theorem seen_far {cs : List Nat} {w h x y u v : Int} {rad : Nat} (ha : gIn w h x y = true) (hsn : Seen cs w h rad [(x, y)] (u, v)) : gFar x y u v ≤ rad := by
  have hin := seen_in (by simpa using ha) hsn
  obtain ⟨a, ha2, ⟨bx, bY⟩, hb, hd, hc⟩ := hsn
  rw [List.mem_singleton] at ha2
  subst ha2
  dsimp only at hb hd hc hin
  have hs : smp x y = true ∧ smp bx bY = true := ⟨smp_in ha, smp_in hb⟩
  have hg0 : 0 ≤ gFar x y bx bY := by have := ap_bd x y bx bY; simp only [gFar]; omega
  obtain ⟨n, hn⟩ := Int.eq_ofNat_of_zero_le hg0
  rw [hn, Int.toNat_natCast] at hc
  obtain ⟨k, hk, he⟩ := seeL_mem.1 hc
  have hN := seeN_bd cs w x y bx bY n
  have h1 : u = (linC x y bx bY n k).1 := by rw [← he]
  have h2 : v = (linC x y bx bY n k).2 := by rw [← he]
  have h3 := smp_in hin
  rw [h1, h2] at h3 ⊢
  have h4 := lin_far hs h3 hn (by omega)
  rw [(far_of hs).1] at hn
  omega
theorem seen_self {cs : List Nat} {w h x y : Int} {rad : Nat} (ha : gIn w h x y = true) : Seen cs w h rad [(x, y)] (x, y) := by
  have hs := smp_in ha
  have hn : gFar x y x y = (0 : Nat) := by rw [(far_of ⟨hs, hs⟩).1]; omega
  exact seen_end ha ha hn (Nat.zero_le _) rfl
theorem seen_step {cs : List Nat} {w h x y u v : Int} {rad : Nat} (ha : gIn w h x y = true) (hb : gIn w h u v = true) (hr : 0 < rad) (hw : gWalk x y u v = 1) : Seen cs w h rad [(x, y)] (u, v) := by
  have hs : smp x y = true ∧ smp u v = true := ⟨smp_in ha, smp_in hb⟩
  have hn : gFar x y u v = (1 : Nat) := by rw [(far_of hs).1]; rw [(far_of hs).2] at hw; omega
  refine seen_end ha hb hn (by omega) ?_
  unfold seeN wkN wkN
  split <;> rfl
theorem seen_all {cs : List Nat} {w h x y u v : Int} {rad n : Nat} (ha : gIn w h x y = true) (hb : gIn w h u v = true) (hn : gFar x y u v = n) (hr : n ≤ rad) (hm : (cs.length : Int) = w * h) (hno : ∀ q ∈ cs, q ≠ 0) : Seen cs w h rad [(x, y)] (u, v) := by
  refine seen_end ha hb hn hr ?_
  have hb2 := seeN_bd cs w x y u v n
  rcases Nat.lt_or_ge (seeN cs w x y u v n) (n + 1) with h1 | h1
  · have h2 := ((seeN_ok (cs := cs) (w := w) (x := x) (y := y) (u := u) (v := v) (n := n)).2 h1).1
    unfold wlC at h2
    simp only [decide_eq_true_eq] at h2
    exact absurd rfl (hno 0 (List.mem_of_getElem? h2))
  · omega
theorem ediv_step {a n m : Int} (hn : 0 < n) (ha : 0 ≤ a ∧ a ≤ n) : m / n ≤ (m + a) / n ∧ (m + a) / n ≤ m / n + 1 := by
  constructor
  · exact Int.ediv_le_ediv hn (by omega)
  · have h1 : (m + a) / n ≤ (m + 1 * n) / n := Int.ediv_le_ediv hn (by omega)
    rwa [Int.add_mul_ediv_right _ _ (by omega)] at h1
/-- One step of a line on one axis. -/
theorem nr_step {k a n : Int} (hn : 0 < n) (ha : -n ≤ a ∧ a ≤ n) : -1 ≤ nr ((k + 1) * a) n - nr (k * a) n ∧ nr ((k + 1) * a) n - nr (k * a) n ≤ 1 ∧ (a = n → nr ((k + 1) * a) n - nr (k * a) n = 1) ∧ (a = -n → nr ((k + 1) * a) n - nr (k * a) n = -1) := by
  rw [nr, if_neg (by omega), nr, if_neg (by omega)]
  have e1 : 2 * ((k + 1) * a) + n = (2 * (k * a) + n) + 2 * a := by rw [Int.add_mul, Int.one_mul]; omega
  rw [e1]
  generalize 2 * (k * a) + n = m
  rcases Int.le_total 0 a with h0 | h0
  · have h1 := ediv_step (m := m) (a := 2 * a) (n := 2 * n) (by omega) (by omega)
    refine ⟨by omega, by omega, fun h => ?_, fun h => by omega⟩
    subst h
    have : (m + 2 * a) / (2 * a) = m / (2 * a) + 1 := by
      have := Int.add_mul_ediv_right m 1 (c := 2 * a) (by omega)
      rwa [Int.one_mul] at this
    omega
  · have h1 := ediv_step (m := m + 2 * a) (a := -(2 * a)) (n := 2 * n) (by omega) (by omega)
    rw [show m + 2 * a + -(2 * a) = m by omega] at h1
    refine ⟨by omega, by omega, fun h => by omega, fun h => ?_⟩
    have : (m + 2 * a) / (2 * n) = m / (2 * n) + -1 := by
      have := Int.add_mul_ediv_right m (-1) (c := 2 * n) (by omega)
      rw [show m + 2 * a = m + -1 * (2 * n) by omega]; exact this
    omega
/-- A line goes a step at a time. -/
theorem lin_step {x y u v : Int} {n k : Nat} (hs : smp x y = true ∧ smp u v = true) (hn : gFar x y u v = n) (hk : k < n) (h1 : smp (linC x y u v n k).1 (linC x y u v n k).2 = true) (h2 : smp (linC x y u v n (k + 1)).1 (linC x y u v n (k + 1)).2 = true) : gFar (linC x y u v n k).1 (linC x y u v n k).2 (linC x y u v n (k + 1)).1 (linC x y u v n (k + 1)).2 = 1 := by
  rw [(far_of ⟨h1, h2⟩).1]
  rw [(far_of hs).1] at hn
  have h3 := nr_step (k := (k : Int)) (a := u - x) (n := (n : Int)) (by omega) (by omega)
  have h4 := nr_step (k := (k : Int)) (a := v - y) (n := (n : Int)) (by omega) (by omega)
  simp only [linC, Int.natCast_add, Int.cast_ofNat_Int]
  generalize nr (((k : Int) + 1) * (u - x)) n = A at *
  generalize nr ((k : Int) * (u - x)) n = B at *
  generalize nr (((k : Int) + 1) * (v - y)) n = C at *
  generalize nr ((k : Int) * (v - y)) n = D at *
  omega

/-! What is seen hangs on the cells that are seen. -/
theorem wkN_cong {f g : Nat → Bool} : ∀ (n k : Nat), (∀ i, k ≤ i → i < wkN f n k → f i = g i) → wkN f n k = wkN g n k
  | 0, k, _ => rfl
  | n + 1, k, h => by
    have h0 := wkN_bd f n (k + 1)
    have h1 : f k = g k := h k (Nat.le_refl _) (by simp only [wkN]; split <;> omega)
    simp only [wkN, h1]
    split
    · rfl
    · rename_i h2
      refine wkN_cong n (k + 1) fun i h3 h4 => h i (by omega) ?_
      simp only [wkN]
      rw [if_neg (by rw [h1]; exact h2)]
      exact h4
theorem ray_cong {cs ds : List Nat} {w x y u v : Int} {n : Nat} (h : ∀ c ∈ seeL cs w x y u v n, wlC cs w c = wlC ds w c) : seeL cs w x y u v n = seeL ds w x y u v n := by
  have : seeN cs w x y u v n = seeN ds w x y u v n := by
    refine wkN_cong n 1 fun i h1 h2 => h _ (seeL_mem.2 ⟨i, h2, rfl⟩)
  unfold seeL
  rw [this]
theorem seen_cong {cs ds : List Nat} {w h : Int} {rad : Nat} {l : List (Int × Int)} (hc : ∀ c, Seen cs w h rad l c → wlC cs w c = wlC ds w c) (c : Int × Int) : Seen cs w h rad l c ↔ Seen ds w h rad l c := by
  have key : ∀ a ∈ l, ∀ b : Int × Int, gIn w h b.1 b.2 = true → (-(rad : Int) ≤ b.1 - a.1 ∧ b.1 - a.1 ≤ rad ∧ -(rad : Int) ≤ b.2 - a.2 ∧ b.2 - a.2 ≤ rad) → seeL cs w a.1 a.2 b.1 b.2 (gFar a.1 a.2 b.1 b.2).toNat = seeL ds w a.1 a.2 b.1 b.2 (gFar a.1 a.2 b.1 b.2).toNat :=
    fun a ha b hb hd => ray_cong fun e he => hc e ⟨a, ha, b, hb, hd, he⟩
  constructor
  · rintro ⟨a, ha, b, hb, hd, h1⟩
    exact ⟨a, ha, b, hb, hd, by rw [← key a ha b hb hd]; exact h1⟩
  · rintro ⟨a, ha, b, hb, hd, h1⟩
    exact ⟨a, ha, b, hb, hd, by rw [key a ha b hb hd]; exact h1⟩
theorem allE_zero {w h : Int} {m : Nat} {l : List (Int × Int)} {rad : Int} (he : allE w h m l rad = 0) : gMay w h = true ∧ (m : Int) = w * h ∧ 0 ≤ rad ∧ rad ≤ 16 ∧ ∀ a ∈ l, gIn w h a.1 a.2 = true := by
  unfold allE at he
  split at he
  · rename_i h1
    split at he
    · omega
    · unfold onE at he
      split at he
      · rename_i h2 h3
        unfold chkE at h1
        split at h1
        · split at h1
          · exact ⟨by assumption, by assumption, by omega, by omega, fun a ha => List.all_eq_true.1 h3 a ha⟩
          · omega
        · omega
      · omega
  · contradiction
theorem at_in {w h : Int} {k : Nat} (hg : gMay w h = true) (hk : (k : Int) < w * h) : gAtE w h k = 0 ∧ gIn w h (gAtX w h k) (gAtY w h k) = true ∧ gAtY w h k * w + gAtX w h k = k := by
  have hg2 := hg
  simp only [gMay, btw, Bool.and_eq_true, decide_eq_true_eq] at hg2
  have hok : gAtOk w h k = true := by
    simp only [gAtOk, btw, Bool.and_eq_true, decide_eq_true_eq]
    exact ⟨hg, by omega, by omega⟩
  have h1 := Int.emod_nonneg k (show w ≠ 0 by omega)
  have h2 := Int.emod_lt_of_pos k (show 0 < w by omega)
  have h3 := Int.mul_ediv_add_emod k w
  have h4 : (k : Int) / w < h := Int.ediv_lt_of_lt_mul (by omega) (by rw [Int.mul_comm]; exact hk)
  have h5 : 0 ≤ (k : Int) / w := Int.ediv_nonneg (by omega) (by omega)
  unfold gAtE gAtX gAtY
  rw [if_pos hok, if_pos hok, if_pos hok]
  refine ⟨rfl, ?_, ?_⟩
  · simp only [gIn, btw, Bool.and_eq_true, decide_eq_true_eq]
    exact ⟨⟨hg, by omega, by omega⟩, by omega, by omega⟩
  · rw [Int.mul_comm]; omega
end Go.Proofs.Ytkoimmfgbepgcaa
