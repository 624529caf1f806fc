/- Wire: what a reader tells, in one form; numbers put, and whether they were right. -/
import Derived.Test.YtkfoeiobdmialaaW5
namespace Go.Proofs.Ytkfoeiobdmialaa
open Go.K

theorem same_t (β : Nat → Option Obj) (σ : Heap) (l : List Nat) (p q : Option Addr) (c d m n : Nat) (hm : l.length = m) (hn : l.length = n) (hp : SL β σ 1 m (by8 l) p) (hq : SL β σ 1 n (by8 l) q) (hb : m ≤ 1000000) :
    Go.K.Tr Try.prog 15 [.slice p m c, .slice q n d] β σ (fun v σ' => v = .bool true ∧ σ' = σ) := (same_p β σ l l p q c d m n hm hn hp hq hb).mono (by rintro v σ' ⟨rfl, rfl⟩; simp)

/-- A number's bytes, and the number of them. -/
theorem num_bes {X size : Nat} (hX : X < 2 ^ (8 * size)) : ∀ k, k ≤ size → num (bes X size k) = X / 2 ^ (8 * (size - k))
  | 0, _ => by
    rw [Nat.sub_zero, Nat.div_eq_of_lt hX]
    simp [bes, num]
  | k + 1, hk => by
    rw [bes_succ, num_snoc, num_bes hX k (by omega)]
    have e1 : 8 * (size - k) = 8 * (size - 1 - k) + 8 := by omega
    have e2 : 8 * (size - (k + 1)) = 8 * (size - 1 - k) := by omega
    rw [e1, e2, Nat.pow_add, ← Nat.div_div_eq_div_mul]
    have : (2 : Nat) ^ 8 = 256 := by decide
    rw [this]
    generalize X / 2 ^ (8 * (size - 1 - k)) = Y
    omega
theorem num_bes' {X size : Nat} (hX : X < 2 ^ (8 * size)) : num (bes X size size) = X := by
  rw [num_bes hX size (Nat.le_refl _)]; simp
theorem hdr_len (m : Nat) : (hdr m).length = 4 := bes_len m 4 4
theorem hdr_num {m : Nat} (h : m ≤ 131072) : num (hdr m) = m := by
  have h2 : (2 : Nat) ^ (8 * 4) = 4294967296 := by decide
  exact num_bes' (by rw [h2]; omega)
/-- A frame, and what is behind it. -/
theorem frame_cut {xs ys : List Nat} (h : xs.length ≤ 131072) : cutE (hdr xs.length ++ xs ++ ys) = 0 ∧ num ((hdr xs.length ++ xs ++ ys).take 4) = xs.length ∧ ((hdr xs.length ++ xs ++ ys).drop 4).take xs.length = xs ∧ (hdr xs.length ++ xs ++ ys).drop (4 + xs.length) = ys := by
  have e1 : (hdr xs.length ++ xs ++ ys).take 4 = hdr xs.length := by
    rw [List.append_assoc, List.take_append_of_le_length (by rw [hdr_len]; omega), List.take_of_length_le (by rw [hdr_len]; omega)]
  have e2 : (hdr xs.length ++ xs ++ ys).drop 4 = xs ++ ys := by
    rw [List.append_assoc, List.drop_left' (hdr_len _)]
  refine ⟨?_, by rw [e1, hdr_num h], by rw [e2, List.take_left' rfl], ?_⟩
  · rw [cutE, e1, hdr_num h, if_neg (by simp only [List.length_append, hdr_len]; omega), if_neg (by omega), if_neg (by simp only [List.length_append, hdr_len]; omega)]
  · exact List.drop_left' (by simp [hdr_len])

def tkE (R : List Nat) (size : Int) : Int := if wMay size then (if (R.length : Int) < size then 17 else 0) else 1
def tkX (R : List Nat) (size : Int) : Nat := if tkE R size = 0 then num (R.take size.toNat) else 0
def tkR (R : List Nat) (size : Int) : List Nat := if tkE R size = 0 then R.drop size.toNat else R
theorem tkR_byt {R : List Nat} (h : Byt R) (size : Int) : Byt (tkR R size) := by
  unfold tkR; split
  · exact h.drop _
  · exact h
theorem tkR_le (R : List Nat) (size : Int) : (tkR R size).length ≤ R.length := by
  unfold tkR; split
  · rw [List.length_drop]; omega
  · exact Nat.le_refl _
theorem Take_q (β : Nat → Option Obj) (σ σ0 : Heap) (br m c : Nat) (R : List Nat) (p : Option Addr) (size : Int) (hl : R.length = m) (hB : Byt R) (hmc : m ≤ c) (h0 : ∀ q ∈ σ0, q ∈ σ) (hv : SL β σ0 1 m (by8 R) p) (hpc : p = none → c = 0 ∧ m = 0) (hm : m ≤ 281474976710656) :
    Go.K.Tr Try.prog 12 [.pointer (some ⟨br, 0, none⟩), .int .i64 size] β ((br, cl [.slice p m c] 55) :: σ) (fun v' σ' => ∃ p' m' c', v' = .tuple #[.int .u64 ((tkX R size : Nat) : Int), .int .i64 (tkE R size)] ∧
      σ' = (br, cl [.slice p' m' c'] 55) :: σ ∧ (tkR R size).length = m' ∧ m' ≤ c' ∧ SL β σ0 1 m' (by8 (tkR R size)) p' ∧ (p' = none → c' = 0 ∧ m' = 0)) := by
  refine (Take_p β σ br m c R p size hl hB hmc (hv.mono (fun q hq => List.mem_cons_of_mem _ (h0 q hq))) hm).mono ?_
  rintro v σ' (⟨h1, rfl, rfl⟩ | ⟨h1, h2, rfl, rfl⟩ | ⟨h1, h2, rfl, rfl⟩)
  · have e : tkE R size = 1 := by simp [tkE, h1]
    refine ⟨p, m, c, ?_, rfl, ?_, hmc, ?_, hpc⟩
    · simp [tkX, e]
    · simp [tkR, e, hl]
    · simp only [tkR, e]; exact hv
  · have e : tkE R size = 17 := by rw [tkE, h1, if_pos rfl, if_pos (by omega)]
    refine ⟨p, m, c, ?_, rfl, ?_, hmc, ?_, hpc⟩
    · simp [tkX, e]
    · simp [tkR, e, hl]
    · simp only [tkR, e]; exact hv
  · have e : tkE R size = 0 := by rw [tkE, h1, if_pos rfl, if_neg (by omega)]
    refine ⟨_, _, _, ?_, rfl, ?_, ?_, ?_, ?_⟩
    · simp [tkX, e]
    · simp [tkR, e, hl]
    · omega
    · simp only [tkR, e, if_true]
      have hs : size.toNat ≤ m := by omega
      have := hv.adv (l := size.toNat) (h := m) (c := c) hs (Nat.le_refl _) hmc
      have e2 : (List.drop (size.toNat * 1) (by8 R)).take ((m - size.toNat) * 1) = by8 (R.drop size.toNat) := by
        rw [Nat.mul_one, Nat.mul_one, List.take_of_length_le (by rw [List.length_drop, by8_len]; omega), by8_drop]
      rw [e2] at this
      exact this
    · intro h
      have := hpc (adv_none h)
      omega
theorem put_is {X : Nat} {size : Int} (hX : X < 18446744073709551616) (hw : wMay size = true) : decide (X / 2 ^ (8 * size.toNat) = 0) = decide (putE X size = 0) := by
  have hb := hw
  simp only [wMay, Bool.and_eq_true, decide_eq_true_eq] at hb
  rw [decide_eq_decide, putE, hw, if_pos rfl]
  by_cases h8 : size < 8
  · by_cases h : X / 2 ^ (8 * size.toNat) = 0
    · simp [h]
    · simp [h, h8]
  · have : size = 8 := by omega
    subst this
    have h3 : (2 : Nat) ^ (8 * (8 : Int).toNat) = 18446744073709551616 := (by decide)
    have h4 : X / 2 ^ (8 * (8 : Int).toNat) = 0 := by rw [h3]; exact Nat.div_eq_of_lt hX
    rw [if_neg (by rintro ⟨h5, _⟩; omega)]
    exact ⟨fun _ => rfl, fun _ => h4⟩
theorem put_no {X : Nat} {size : Int} (hw : wMay size = true) : putE X size = 0 ∨ putE X size = 10 := by
  rw [putE, hw, if_pos rfl]; split
  · exact .inr rfl
  · exact .inl rfl
theorem putB_len {X : Nat} {size : Int} : (putB X size).length ≤ 8 := by
  unfold putB; split
  · rename_i h
    have hw : wMay size = true := by
      cases h2 : wMay size with
      | true => rfl
      | false => rw [putE, h2] at h; simp at h
    simp only [wMay, Bool.and_eq_true, decide_eq_true_eq] at hw
    rw [bes_len]; omega
  · simp

theorem putB_byt {X : Nat} {size : Int} : Byt (putB X size) := by
  unfold putB; split
  · exact bes_byt _ _ _
  · intro n hn; cases hn

/-- Numbers, and how many bytes each has. -/
def flP (l : List (Nat × Int)) : List Value := l.flatMap fun c => [.int .u64 (c.1 : Int), .int .i64 c.2]
theorem flP_get : ∀ {l : List (Nat × Int)} {i : Nat} {c : Nat × Int}, l[i]? = some c → (flP l)[i * 2]? = some (.int .u64 (c.1 : Int)) ∧ (flP l)[i * 2 + 1]? = some (.int .i64 c.2)
  | [], i, c, h => by simp at h
  | d :: l, 0, c, h => by
    simp only [List.getElem?_cons_zero, Option.some.injEq] at h
    subst h
    exact ⟨rfl, rfl⟩
  | d :: l, i + 1, c, h => by
    have := flP_get (l := l) (i := i) (c := c) (by simpa using h)
    rw [show (i + 1) * 2 = i * 2 + 2 by omega, show i * 2 + 2 + 1 = i * 2 + 1 + 2 by omega]
    exact this
theorem celP {β : Nat → Option Obj} {σ : Heap} {b off i : Nat} {l : List (Nat × Int)} {c : Nat × Int} (h : ∀ (j : Nat) (u : Value), (flP l)[j]? = some u → Cel β σ b (off + j) u) (hi : l[i]? = some c) :
    Cel β σ b (off + (i : Int).toNat * 2 + 0) (.int .u64 (c.1 : Int)) ∧ Cel β σ b (off + (i : Int).toNat * 2 + 1) (.int .i64 c.2) := by
  obtain ⟨h1, h2⟩ := flP_get hi
  refine ⟨?_, ?_⟩
  · have := h _ _ h1
    rwa [show off + (i : Int).toNat * 2 + 0 = off + i * 2 by omega]
  · have := h _ _ h2
    rwa [show off + (i : Int).toNat * 2 + 1 = off + (i * 2 + 1) by omega]
/-- Parts that were handed in. -/
theorem parts_of {P : Program} {β : Nat → Option Obj} {t u : TypeId} (ht : P.underlying t = some (.int .u64)) (hu : P.underlying u = some (.int .i64)) : ∀ {m : Nat} {xs : List Value}, xs.length = m * 2 → (∀ i, i < m → RdL P β [t, u] ((xs.drop (i * 2)).take 2)) →
    ∃ l : List (Nat × Int), xs = flP l ∧ l.length = m ∧ ∀ c ∈ l, c.1 < 18446744073709551616 ∧ -9223372036854775808 ≤ c.2 ∧ c.2 ≤ 9223372036854775807
  | 0, xs, hl, _ => ⟨[], by simpa [flP] using hl, rfl, fun x hx => by cases hx⟩
  | m + 1, xs, hl, h => by
    match xs, hl with
    | [], hl => simp at hl
    | [_], hl => simp at hl; omega
    | x :: y :: r, hl =>
      obtain ⟨c1, r1, e1, h1, h2⟩ := (h 0 (by omega)).cons
      obtain ⟨c2, r2, e2, h3, h4⟩ := h2.cons
      simp only [Nat.zero_mul, List.drop_zero, List.take_succ_cons, List.take_zero, List.cons.injEq] at e1
      obtain ⟨rfl, rfl⟩ := e1
      simp only [List.cons.injEq] at e2
      obtain ⟨rfl, _⟩ := e2
      obtain ⟨a, rfl, ha⟩ := rd_int ht h1
      obtain ⟨b, rfl, hb⟩ := rd_i64 hu h3
      obtain ⟨l, rfl, hl2, hl3⟩ := parts_of ht hu (m := m) (xs := r) (by simp at hl; omega) (fun i hi => by
        have := h (i + 1) (by omega)
        rwa [show (i + 1) * 2 = i * 2 + 2 by omega] at this)
      simp only [Lit.wf, Bool.and_eq_true, decide_eq_true_eq] at ha
      have e3 : IntKind.u64.min = 0 := by decide
      have e4 : IntKind.u64.max = 18446744073709551615 := by decide
      refine ⟨(a.toNat, b) :: l, ?_, by simp [hl2], fun c hc => ?_⟩
      · simp only [flP, List.flatMap_cons, List.cons_append, List.nil_append]
        rw [Int.toNat_of_nonneg (by omega)]
      · rcases List.mem_cons.1 hc with rfl | hc
        · exact ⟨by show a.toNat < _; omega, hb⟩
        · exact hl3 c hc
end Go.Proofs.Ytkfoeiobdmialaa
