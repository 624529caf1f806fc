/- Plain laws: what is printed is parsed, and what is parsed is printed. -/
import Derived.Test.YtcnebanpnnblbaaDoorSR
import Derived.Test.YtcnebanpnnblbaaDoorSM
namespace Go.Proofs.YtcnebanpnnblbaaDoor
open Go Go.K

theorem numF_all : ∀ f n, ∀ q ∈ numF f n, 48 ≤ q ∧ q ≤ 57
  | 0, _, q, h => by cases h
  | f + 1, n, q, h => by
    unfold numF at h
    split at h
    · simp only [List.mem_singleton] at h; omega
    · rcases List.mem_append.1 h with h | h
      · exact numF_all f _ q h
      · simp only [List.mem_singleton] at h; omega
theorem numL_all {n q : Nat} (h : q ∈ numL n) : 48 ≤ q ∧ q ≤ 57 := numF_all 20 n q h
theorem numL_isD (n : Nat) : (numL n).all isD = true := by
  rw [List.all_eq_true]
  intro q hq
  have := numL_all hq
  simp only [isD, Bool.and_eq_true, decide_eq_true_eq]
  exact this
theorem numL_no (n : Nat) {c : Nat} (hc : c < 48) : ∀ x ∈ numL n, x ≠ c := fun x hx => by have := numL_all hx; omega
theorem numL_ne (n : Nat) : numL n ≠ [] := by
  unfold numL numF
  split <;> simp
theorem valD_num : ∀ k n, n < 10 ^ (k + 1) → n < 10 ^ 19 → valD (numL n) = n
  | 0, n, h, _ => by
    have h10 : n < 10 := by simpa using h
    rw [numL_small h10]
    show 10 * 0 + (48 + n - 48) = n
    omega
  | k + 1, n, h, h19 => by
    by_cases h10 : n < 10
    · exact valD_num 0 n (by simpa using h10) h19
    · rw [numL_step h19 (by omega), valD_snoc, valD_num k (n / 10) (by rw [Nat.pow_succ] at h; omega) (by omega)]
      omega
theorem numL_head : ∀ k n, n < 10 ^ (k + 1) → n < 10 ^ 19 → 1 ≤ n → (numL n).getD 0 0 ≠ 48
  | 0, n, h, _, h1 => by
    have h10 : n < 10 := by simpa using h
    rw [numL_small h10]
    show 48 + n ≠ 48
    omega
  | k + 1, n, h, h19, h1 => by
    by_cases h10 : n < 10
    · exact numL_head 0 n (by simpa using h10) h19 h1
    · have ih := numL_head k (n / 10) (by rw [Nat.pow_succ] at h; omega) (by omega) (by omega)
      rw [numL_step h19 (by omega)]
      rcases hq : numL (n / 10) with _ | ⟨a, r⟩
      · exact absurd hq (numL_ne _)
      · rw [hq] at ih
        exact ih
theorem cost_num {n : Nat} (h : n < 65536) : costR (numL n) = (n, 0) := by
  have h5 : n < 10 ^ (4 + 1) := by have : (10 : Nat) ^ (4 + 1) = 100000 := by decide
                                   omega
  have h19 : n < 10 ^ 19 := by omega
  have hv := valD_num 4 n h5 h19
  unfold costR
  rw [if_neg, if_neg (by omega), hv]
  rintro (h | h | ⟨h, h2⟩ | h)
  · exact numL_ne n h
  · have := numL_len (n := n) ‹_›
    omega
  · rcases Nat.eq_zero_or_pos n with h0 | h0
    · subst h0
      rw [numL_small (by decide)] at h2
      simp at h2
    · exact numL_head 4 n h5 h19 h0 h
  · exact h (numL_isD n)
theorem spl_app (c : Nat) (b : List Nat) : ∀ a, spl (a ++ c :: b) c = spl a c ++ spl b c
  | [] => by simp [spl]
  | x :: a => by
    have ih := spl_app c b a
    rw [List.cons_append, spl, spl, ih]
    by_cases hx : x = c
    · rw [if_pos hx, if_pos hx]; rfl
    · rw [if_neg hx, if_neg hx]
      rcases hs : spl a c with _ | ⟨p, ps⟩
      · exact absurd hs (spl_ne a c)
      · rfl
theorem spl_end {c : Nat} {p : List Nat} (hp : ∀ x ∈ p, x ≠ c) : ∀ (a : List Nat) (xs : List (List Nat)) (y : List Nat), spl a c = xs ++ [y] → spl (a ++ p) c = xs ++ [y ++ p]
  | [], xs, y, h => by
    have h2 : xs = [] ∧ y = [] := by
      cases xs with
      | nil => simp [spl] at h; exact ⟨rfl, h⟩
      | cons q qs => have := congrArg List.length h; simp [spl] at this
    rw [h2.1, h2.2]
    exact spl_no p hp
  | b :: a, xs, y, h => by
    rw [spl] at h
    rw [List.cons_append, spl]
    by_cases hb : b = c
    · rw [if_pos hb] at h ⊢
      cases xs with
      | nil =>
        have := congrArg List.length h
        have h3 := spl_len a c
        simp at this
        exact absurd this (spl_ne a c)
      | cons q qs =>
        rw [List.cons_append, List.cons.injEq] at h
        rw [spl_end hp a qs y h.2, ← h.1]
        rfl
    · rw [if_neg hb] at h ⊢
      rcases hs : spl a c with _ | ⟨p0, ps⟩
      · exact absurd hs (spl_ne a c)
      · rw [hs] at h
        dsimp only at h
        cases xs with
        | nil =>
          rw [List.nil_append, List.cons.injEq] at h
          obtain ⟨h1, h2⟩ := h
          subst h2
          rw [spl_end hp a [] p0 (by rw [hs]; rfl), ← h1]
          rfl
        | cons q qs =>
          rw [List.cons_append, List.cons.injEq] at h
          obtain ⟨h1, h2⟩ := h
          rw [spl_end hp a (p0 :: qs) y (by rw [hs, h2]; rfl), ← h1]
          rfl
theorem spl_row (cs : List Nat) : ∀ x, spl (rowP cs (x + 1)) 32 = (List.range (x + 1)).map fun i => numL (cs.getD i 0)
  | 0 => by
    rw [rowP, rowP, if_pos rfl, List.nil_append, List.nil_append, spl_no _ (numL_no _ (by decide))]
    rfl
  | x + 1 => by
    rw [rowP, if_neg (by omega), List.append_assoc, List.singleton_append, spl_app, spl_row cs x, spl_no _ (numL_no _ (by decide)), List.range_succ (n := x + 1), List.map_append]
    rfl
theorem rowP_no (cs : List Nat) : ∀ x, ∀ q ∈ rowP cs x, q ≠ 10
  | 0, q, h => by cases h
  | x + 1, q, h => by
    unfold rowP at h
    rcases List.mem_append.1 h with h | h
    · rcases List.mem_append.1 h with h | h
      · exact rowP_no cs x q h
      · split at h
        · cases h
        · simp only [List.mem_singleton] at h; omega
    · have := numL_all h; omega
def rowsF (w : Nat) (cs : List Nat) (i k : Nat) : List (List Nat) := (List.range k).map fun t => rowP (cs.drop ((i + t) * w)) w
theorem spl_txt (w : Nat) (cs : List Nat) : ∀ j, spl (txtP w cs j) 10 = rowsF w cs 0 j ++ [[]]
  | 0 => rfl
  | j + 1 => by
    have h := spl_end (rowP_no (cs.drop (j * w)) w) (txtP w cs j) (rowsF w cs 0 j) [] (spl_txt w cs j)
    rw [List.nil_append] at h
    rw [txtP, spl_app, h]
    unfold rowsF
    rw [List.range_succ, List.map_append, List.map_singleton, Nat.zero_add]
    rfl
theorem rowE_num (f : Nat → Nat) (hf : ∀ i, f i < 65536) : ∀ l : List Nat, rowE (l.map fun i => numL (f i)) = 0
  | [] => rfl
  | i :: l => by rw [List.map_cons, rowE, cost_num (hf i), if_pos rfl]; exact rowE_num f hf l
theorem rowC_num (f : Nat → Nat) (hf : ∀ i, f i < 65536) (l : List Nat) : rowC (l.map fun i => numL (f i)) = l.map f := by
  unfold rowC
  rw [List.map_map]
  apply List.map_congr_left
  intro i _
  simp only [Function.comp, cost_num (hf i)]
theorem range_getD (cs : List Nat) (w : Nat) (h : w ≤ cs.length) : ((List.range w).map fun i => cs.getD i 0) = cs.take w := by
  apply List.ext_getElem?
  intro i
  rw [List.getElem?_map, List.getElem?_take]
  by_cases hi : i < w
  · rw [List.getElem?_range hi, if_pos hi, List.getElem?_eq_getElem (by omega)]
    simp [List.getD_eq_getElem?_getD, List.getElem?_eq_getElem (show i < cs.length by omega)]
  · rw [if_neg hi, List.getElem?_eq_none (by rw [List.length_range]; omega)]
    rfl
theorem par_rows {w h : Nat} {cs : List Nat} (hw : 1 ≤ w ∧ w ≤ 256) (hh : h ≤ 256) (hl : cs.length = w * h) (hB : ∀ q ∈ cs, q < 65536) : ∀ k i g, i + k = h → g.h = i → (0 < i → g.w = w) → g.cs = cs.take (i * w) → (k = 0 → 0 < i) → parK (rowsF w cs i k ++ [[]]) i g = (⟨w, h, cs⟩, 0, 0)
  | 0, i, g, hi, h1, h2, h3, h4 => by
    have hih : i = h := by omega
    show parK [[]] i g = _
    rw [parK, if_neg (fun h => h rfl)]
    obtain ⟨gw, gh, gc⟩ := g
    dsimp only at h1 h2 h3
    rw [h2 (h4 rfl), h1, h3, hih, List.take_of_length_le (by rw [hl, Nat.mul_comm]; exact Nat.le_refl _)]
  | k + 1, i, g, hi, h1, h2, h3, _ => by
    have e : rowsF w cs i (k + 1) = rowP (cs.drop (i * w)) w :: rowsF w cs (i + 1) k := by
      unfold rowsF
      rw [List.range_succ_eq_map, List.map_cons, List.map_map, Nat.add_zero]
      congr 1
      apply List.map_congr_left
      intro t _
      simp only [Function.comp]
      rw [show i + (t + 1) = i + 1 + t by omega]
    have hrw : (i + 1) * w ≤ h * w := Nat.mul_le_mul_right w (by omega)
    have hrw2 : (i + 1) * w = i * w + w := by rw [Nat.add_mul, Nat.one_mul]
    have hhw : h * w = w * h := Nat.mul_comm h w
    obtain ⟨w', rfl⟩ : ∃ w', w = w' + 1 := ⟨w - 1, by omega⟩
    have hs := spl_row (cs.drop (i * (w' + 1))) w'
    have hf := getD_lt (drop_lt hB (i * (w' + 1)))
    have hE := rowE_num (fun x => (cs.drop (i * (w' + 1))).getD x 0) hf (List.range (w' + 1))
    have hC := rowC_num (fun x => (cs.drop (i * (w' + 1))).getD x 0) hf (List.range (w' + 1))
    rw [range_getD _ _ (by rw [List.length_drop]; omega)] at hC
    have hn : (spl (rowP (cs.drop (i * (w' + 1))) (w' + 1)) 32).length = w' + 1 := by rw [hs, List.length_map, List.length_range]
    rw [← hs] at hE hC
    have hA : addR g (rowP (cs.drop (i * (w' + 1))) (w' + 1)) = (0, ⟨w' + 1, i + 1, cs.take ((i + 1) * (w' + 1))⟩) := by
      unfold addR
      rw [if_neg (fun h => h hE), if_neg (by omega), if_neg (by rw [hn]; intro h; exact h.2 (h2 (by omega)).symm), if_neg (by omega), hn, hC, h1, h3, hrw2, ← List.take_add]
    obtain ⟨u, r, hur⟩ : ∃ u r, rowsF (w' + 1) cs (i + 1) k ++ [[]] = u :: r := by
      rcases hq : rowsF (w' + 1) cs (i + 1) k with _ | ⟨u, r⟩
      · exact ⟨_, _, rfl⟩
      · exact ⟨_, _, rfl⟩
    rw [e, List.cons_append, hur, parK, hA, if_neg (fun h => h rfl), ← hur]
    exact par_rows hw hh hl hB k (i + 1) _ (by omega) rfl (fun _ => rfl) rfl (fun _ => by omega)
/-- What is printed is parsed as it was. -/
theorem par_txt {w h : Nat} {cs : List Nat} (hw : 1 ≤ w ∧ w ≤ 256) (hh : 1 ≤ h ∧ h ≤ 256) (hl : cs.length = w * h) (hB : ∀ q ∈ cs, q < 65536) (hs : (txtP w cs h).length ≤ 131072) : parR (txtP w cs h) = (⟨w, h, cs⟩, 0, 0) := by
  have h1 : txtP w cs h ≠ [] := by
    obtain ⟨h', rfl⟩ : ∃ h', h = h' + 1 := ⟨h - 1, by omega⟩
    rw [txtP]
    simp
  rw [parR_eq (by omega) h1, spl_txt]
  exact par_rows hw hh.2 hl hB h 0 zG (by omega) rfl (fun h => by omega) (by simp [zG]) (fun h => by omega)
theorem list_snoc {α : Type} {P : List α → Prop} (h0 : P []) (h1 : ∀ l x, P l → P (l ++ [x])) (l : List α) : P l := by
  have : ∀ n (l : List α), l.length = n → P l := by
    intro n
    induction n with
    | zero => intro l hl; rw [List.length_eq_zero_iff.1 hl]; exact h0
    | succ n ih =>
      intro l hl
      have hne : l ≠ [] := by intro h; rw [h] at hl; cases hl
      rw [← List.dropLast_concat_getLast hne]
      exact h1 _ _ (ih _ (by rw [List.length_dropLast]; omega))
  exact this _ l rfl
theorem valD_pos : ∀ l : List Nat, l.all isD = true → l ≠ [] → l.getD 0 0 ≠ 48 → 1 ≤ valD l := by
  refine list_snoc (fun _ h _ => absurd rfl h) ?_
  intro l x ih hD _ h0
  rw [List.all_append, Bool.and_eq_true] at hD
  rw [valD_snoc]
  cases l with
  | nil =>
    have hx : isD x = true := by simpa using hD.2
    simp only [isD, Bool.and_eq_true, decide_eq_true_eq] at hx
    have : x ≠ 48 := by simpa using h0
    omega
  | cons a r =>
    have := ih hD.1 (by simp) (by simpa using h0)
    omega
/-- A word that is written as it has to be is its number's digits. -/
theorem num_val : ∀ l : List Nat, l.all isD = true → l ≠ [] → (l.getD 0 0 = 48 → l.length = 1) → valD l < 10 ^ 19 → numL (valD l) = l := by
  refine list_snoc (fun _ h _ _ => absurd rfl h) ?_
  intro l x ih hD _ h0 hv
  rw [List.all_append, Bool.and_eq_true] at hD
  have hx : isD x = true := by simpa using hD.2
  simp only [isD, Bool.and_eq_true, decide_eq_true_eq] at hx
  rw [valD_snoc] at hv ⊢
  cases l with
  | nil =>
    have e : 10 * valD [] + (x - 48) = x - 48 := by show 10 * 0 + (x - 48) = _; omega
    rw [e, numL_small (by omega), show 48 + (x - 48) = x by omega]
    rfl
  | cons a r =>
    have ha : (a :: r).getD 0 0 ≠ 48 := by
      intro h
      have := h0 (by simpa using h)
      simp at this
    have hp := valD_pos (a :: r) hD.1 (by simp) ha
    rw [numL_step hv (by omega), show (10 * valD (a :: r) + (x - 48)) / 10 = valD (a :: r) by omega, ih hD.1 (by simp) (fun h => absurd h ha) (by omega), show 48 + (10 * valD (a :: r) + (x - 48)) % 10 = x by omega]
theorem num_cost {w : List Nat} (h : (costR w).2 = 0) : numL (costR w).1 = w := by
  unfold costR at h ⊢
  by_cases c1 : w = [] ∨ 5 < w.length ∨ (w.getD 0 0 = 48 ∧ 1 < w.length) ∨ ¬ w.all isD = true
  · rw [if_pos c1] at h; cases h
  rw [if_neg c1] at h ⊢
  by_cases c2 : 65535 < valD w
  · rw [if_pos c2] at h; cases h
  rw [if_neg c2]
  have hD : w.all isD = true := by
    cases hq : w.all isD with
    | true => rfl
    | false => exact absurd (.inr (.inr (.inr (by rw [hq]; decide)))) c1
  exact num_val w hD (fun h => c1 (.inl h)) (fun h => by
    by_cases h1 : 1 < w.length
    · exact absurd (.inr (.inr (.inl ⟨h, h1⟩))) c1
    · rcases w with _ | ⟨a, _ | ⟨b, r⟩⟩
      · exact absurd (.inl rfl) c1
      · rfl
      · simp at h1) (by omega)
/-- Pieces put together. -/
def jn (c : Nat) : List (List Nat) → List Nat
  | [] => []
  | [p] => p
  | p :: q :: r => p ++ c :: jn c (q :: r)
theorem jn_spl (c : Nat) : ∀ l, jn c (spl l c) = l
  | [] => rfl
  | b :: l => by
    have ih := jn_spl c l
    rw [spl]
    rcases hs : spl l c with _ | ⟨p, ps⟩
    · exact absurd hs (spl_ne l c)
    · rw [hs] at ih
      by_cases hb : b = c
      · rw [if_pos hb, jn, ih, hb]; rfl
      · rw [if_neg hb]
        dsimp only
        cases ps with
        | nil =>
          rw [jn] at ih ⊢
          rw [ih]
        | cons q r =>
          rw [jn] at ih ⊢
          rw [List.cons_append, ih]
theorem jn_snoc (c : Nat) (y : List Nat) : ∀ xs : List (List Nat), xs ≠ [] → jn c (xs ++ [y]) = jn c xs ++ [c] ++ y
  | [], h => absurd rfl h
  | [p], _ => by
    show p ++ c :: y = p ++ [c] ++ y
    simp
  | p :: q :: r, _ => by
    have ih := jn_snoc c y (q :: r) (by simp)
    show p ++ c :: jn c (q :: r ++ [y]) = (p ++ c :: jn c (q :: r)) ++ [c] ++ y
    rw [ih]
    simp
theorem rowP_jn (ns : List Nat) : ∀ x, x ≤ ns.length → rowP ns x = jn 32 ((ns.take x).map numL)
  | 0, _ => rfl
  | x + 1, h => by
    obtain ⟨n, hn⟩ : ∃ z, ns[x]? = some z := ⟨_, List.getElem?_eq_getElem (by omega)⟩
    have hd : ns.getD x 0 = n := by rw [List.getD_eq_getElem?_getD, hn]; rfl
    rw [rowP, hd, rowP_jn ns x (by omega), List.take_add_one, hn]
    show _ = jn 32 ((ns.take x ++ [n]).map numL)
    rw [List.map_append, List.map_singleton]
    by_cases hx : x = 0
    · subst hx
      rw [if_pos rfl]
      rfl
    · rw [if_neg hx, jn_snoc _ _ _ (by
        intro h9
        have := congrArg List.length h9
        rw [List.length_map, List.length_take, List.length_nil] at this
        omega)]
theorem rowE_all : ∀ ws : List (List Nat), rowE ws = 0 → ∀ w ∈ ws, (costR w).2 = 0
  | [], _, w, h => by cases h
  | v :: ws, h, w, hw => by
    unfold rowE at h
    by_cases hv : (costR v).2 = 0
    · rw [if_pos hv] at h
      rcases List.mem_cons.1 hw with rfl | hw
      · exact hv
      · exact rowE_all ws h w hw
    · rw [if_neg hv] at h; exact absurd h hv
theorem row_back (t : List Nat) (h : rowE (spl t 32) = 0) : rowP (rowC (spl t 32)) (spl t 32).length = t := by
  have hl : (rowC (spl t 32)).length = (spl t 32).length := by unfold rowC; rw [List.length_map]
  rw [rowP_jn _ _ (by omega), ← hl, List.take_length]
  unfold rowC
  rw [List.map_map]
  have e : (spl t 32).map (numL ∘ fun w => (costR w).1) = spl t 32 := by
    conv => rhs; rw [← List.map_id (spl t 32)]
    apply List.map_congr_left
    intro w hw
    exact num_cost (rowE_all _ h w hw)
  rw [e, jn_spl]
theorem rowP_pre (a b : List Nat) : ∀ x, x ≤ a.length → rowP (a ++ b) x = rowP a x
  | 0, _ => rfl
  | x + 1, h => by
    rw [rowP, rowP, rowP_pre a b x (by omega)]
    congr 2
    rw [List.getD_eq_getElem?_getD, List.getD_eq_getElem?_getD, List.getElem?_append_left (by omega)]
theorem txtP_pre (w : Nat) (a b : List Nat) : ∀ j, j * w ≤ a.length → txtP w (a ++ b) j = txtP w a j
  | 0, _ => rfl
  | j + 1, h => by
    rw [Nat.add_mul, Nat.one_mul] at h
    rw [txtP, txtP, txtP_pre w a b j (by omega), List.drop_append_of_le_length (by omega), rowP_pre _ _ _ (by rw [List.length_drop]; omega)]
/-- What is parsed prints as it was written. -/
theorem txt_par : ∀ (L : List (List Nat)) (y : Nat) (g : GF), L ≠ [] → g.h = y → g.cs.length = y * g.w → (0 < y → 1 ≤ g.w) → (parK L y g).2.2 = 0 →
    (parK L y g).2.1 = 0 ∧ (parK L y g).1.h + 1 = y + L.length ∧ (1 < L.length → 1 ≤ (parK L y g).1.w) ∧ (0 < y → (parK L y g).1.w = g.w) ∧ (∃ r, (parK L y g).1.cs = g.cs ++ r) ∧ txtP (parK L y g).1.w (parK L y g).1.cs (parK L y g).1.h = txtP (parK L y g).1.w g.cs y ++ jn 10 L
  | [], _, _, h, _, _, _, _ => absurd rfl h
  | [t], y, g, _, h1, h2, h3, h => by
    rw [parK] at h ⊢
    by_cases ht : t ≠ []
    · rw [if_pos ht] at h; cases h
    · rw [if_neg ht] at h ⊢
      have ht0 : t = [] := by
        cases t with
        | nil => rfl
        | cons a r => exact absurd (by simp) ht
      subst ht0
      refine ⟨rfl, by dsimp only; rw [h1]; rfl, fun h => by simp at h, fun _ => rfl, ⟨[], by simp⟩, ?_⟩
      dsimp only
      rw [h1]
      simp [jn]
  | t :: u :: r, y, g, _, h1, h2, h3, h => by
    rw [parK] at h ⊢
    by_cases ha : (addR g t).1 ≠ 0
    · rw [if_pos ha] at h
      exact absurd h ha
    rw [if_neg ha] at h ⊢
    have ha0 : (addR g t).1 = 0 := by simpa using ha
    have haR : addR g t = if rowE (spl t 32) ≠ 0 then (rowE (spl t 32), g) else if 256 < (spl t 32).length then (10, g) else if 0 < g.h ∧ (spl t 32).length ≠ g.w then (12, g) else if g.h = 256 then (10, g) else (0, ⟨(spl t 32).length, g.h + 1, g.cs ++ rowC (spl t 32)⟩) := rfl
    have hE : rowE (spl t 32) = 0 := by
      by_cases c : rowE (spl t 32) = 0
      · exact c
      · rw [if_pos c] at haR; rw [haR] at ha0; exact ha0
    rw [if_neg (fun h => h hE)] at haR
    have hl : ¬ 256 < (spl t 32).length := fun c => by rw [if_pos c] at haR; rw [haR] at ha0; cases ha0
    rw [if_neg hl] at haR
    have hg : ¬ (0 < g.h ∧ (spl t 32).length ≠ g.w) := fun c => by rw [if_pos c] at haR; rw [haR] at ha0; cases ha0
    rw [if_neg hg] at haR
    have hy : ¬ g.h = 256 := fun c => by rw [if_pos c] at haR; rw [haR] at ha0; cases ha0
    rw [if_neg hy] at haR
    have hn1 : 1 ≤ (spl t 32).length := by rw [spl_len]; omega
    have hrl : (rowC (spl t 32)).length = (spl t 32).length := by unfold rowC; rw [List.length_map]
    have hrb := row_back t hE
    have hwy : 0 < y → (spl t 32).length = g.w := fun h => by
      by_cases e : (spl t 32).length = g.w
      · exact e
      · exact absurd ⟨by omega, e⟩ hg
    have hcl : g.cs.length = y * (spl t 32).length := by
      rcases Nat.eq_zero_or_pos y with h0 | h0
      · rw [h2, h0]; simp
      · rw [h2, hwy h0]
    obtain ⟨n, hn⟩ : ∃ n, n = (spl t 32).length := ⟨_, rfl⟩
    obtain ⟨cs, hcs⟩ : ∃ cs, cs = rowC (spl t 32) := ⟨_, rfl⟩
    rw [← hn] at hn1 hrl hrb hwy hcl haR
    rw [← hcs] at hrl hrb haR
    rw [haR] at h ⊢
    dsimp only at h ⊢
    obtain ⟨i1, i2, i3, i4, ⟨r', i5⟩, i6⟩ := txt_par (u :: r) (y + 1) ⟨n, g.h + 1, g.cs ++ cs⟩ (by simp) (by dsimp only; omega) (by dsimp only; rw [List.length_append, hrl, hcl, Nat.add_mul, Nat.one_mul]) (fun _ => hn1) h
    have i4' := i4 (by omega)
    dsimp only at i4' i5 i6
    rw [i4'] at i6 ⊢
    refine ⟨i1, by rw [i2]; simp; omega, fun _ => hn1, fun h => hwy h, ⟨cs ++ r', by rw [i5, List.append_assoc]⟩, ?_⟩
    rw [i6, txtP, txtP_pre n g.cs cs y (by omega), ← hcl, List.drop_left, hrb, jn]
    simp
theorem par_back {l : List Nat} {g : GF} {n : Nat} (h : parR l = (g, n, 0)) : n = 0 ∧ 1 ≤ g.w ∧ 1 ≤ g.h ∧ txtP g.w g.cs g.h = l := by
  by_cases h1 : 131072 < l.length
  · unfold parR at h; rw [if_pos h1] at h; cases h
  by_cases h2 : l = []
  · unfold parR at h; rw [if_neg h1, if_pos h2] at h; cases h
  rw [parR_eq h1 h2] at h
  have hk := txt_par (spl l 10) 0 zG (spl_ne l 10) rfl (by simp [zG]) (fun h => by omega) (by rw [h])
  rw [h] at hk
  dsimp only at hk
  obtain ⟨i1, i2, i3, _, _, i6⟩ := hk
  have hL : 1 < (spl l 10).length := by
    rcases hs : spl l 10 with _ | ⟨t, _ | ⟨u, r⟩⟩
    · exact absurd hs (spl_ne l 10)
    · exfalso
      rw [hs, parK] at h
      by_cases ht : t ≠ []
      · rw [if_pos ht] at h; cases h
      · have ht0 : t = [] := by
          cases t with
          | nil => rfl
          | cons a r => exact absurd (by simp) ht
        have := jn_spl 10 l
        rw [hs, ht0] at this
        exact h2 this.symm
    · simp
  refine ⟨i1, i3 hL, by omega, ?_⟩
  rw [i6, jn_spl]
  rfl
end Go.Proofs.YtcnebanpnnblbaaDoor
