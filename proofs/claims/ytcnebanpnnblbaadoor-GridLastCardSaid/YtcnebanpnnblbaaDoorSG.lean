/- Plain laws: the edits of turned cells bring a field to another one. -/
import Derived.Test.YtcnebanpnnblbaaDoorS7
import Derived.Test.YtcnebanpnnblbaaDoorS8
namespace Go.Proofs.YtcnebanpnnblbaaDoor
open Go Go.K

theorem trnPre (w : Nat) (a b : List Nat) (n : Nat) : ∀ k, ∃ t, trn w a b (n + k) = trn w a b n ++ t
  | 0 => ⟨[], by simp⟩
  | k + 1 => by
    obtain ⟨t, ht⟩ := trnPre w a b n k
    refine ⟨t ++ (if a.getD (n + k) 0 = b.getD (n + k) 0 then [] else [((((n + k) % w : Nat) : Int), (((n + k) / w : Nat) : Int))]), ?_⟩
    rw [← Nat.add_assoc, trn, ht, List.append_assoc]
theorem trnAt (w : Nat) (a b : List Nat) (n M : Nat) (h : n < M) (hne : a.getD n 0 ≠ b.getD n 0) : (trn w a b M)[(trn w a b n).length]? = some (((n % w : Nat) : Int), ((n / w : Nat) : Int)) := by
  obtain ⟨t, ht⟩ := trnPre w a b (n + 1) (M - (n + 1))
  have e : n + 1 + (M - (n + 1)) = M := by omega
  rw [e] at ht
  rw [ht, trn, if_neg hne]
  simp
theorem trn_up (w : Nat) (a b : List Nat) (n : Nat) : ∀ k, (trn w a b n).length ≤ (trn w a b (n + k)).length
  | 0 => Nat.le_refl _
  | k + 1 => by
    have := trn_up w a b n k
    rw [← Nat.add_assoc, trn, List.length_append]
    omega
/-- The first t costs of b, and behind them a's. -/
def mix (a b : List Nat) (t : Nat) : List Nat := b.take t ++ a.drop t
theorem mix_len {a b : List Nat} {t : Nat} (hab : b.length = a.length) (ht : t ≤ a.length) : (mix a b t).length = a.length := by
  unfold mix
  rw [List.length_append, List.length_take, List.length_drop]
  omega
theorem mix_get {a b : List Nat} {t : Nat} (hab : b.length = a.length) (ht : t < a.length) : (mix a b t)[t]? = a[t]? := by
  unfold mix
  rw [List.getElem?_append_right (by rw [List.length_take]; omega), List.length_take, Nat.min_eq_left (by omega), Nat.sub_self, List.getElem?_drop, Nat.add_zero]
theorem mix_set {a b : List Nat} {t : Nat} (hab : b.length = a.length) (ht : t < a.length) : (mix a b t).set t (b.getD t 0) = mix a b (t + 1) := by
  obtain ⟨y, hy⟩ : ∃ z, b[t]? = some z := ⟨_, List.getElem?_eq_getElem (by omega)⟩
  have hyd : b.getD t 0 = y := by rw [List.getD_eq_getElem?_getD, hy]; rfl
  obtain ⟨x, hx⟩ : ∃ z, a[t]? = some z := ⟨_, List.getElem?_eq_getElem (by omega)⟩
  have hd : a.drop t = x :: a.drop (t + 1) := by rw [List.drop_eq_getElem_cons ht]; congr 1; rw [List.getElem?_eq_getElem ht] at hx; exact Option.some.inj hx
  unfold mix
  rw [hyd, hd, List.set_append_right _ _ (by rw [List.length_take]; omega), List.length_take, Nat.min_eq_left (by omega), Nat.sub_self, List.set_cons_zero, List.take_add_one, hy, List.append_assoc]
  rfl
theorem mix_same {a b : List Nat} {t : Nat} (hab : b.length = a.length) (ht : t < a.length) (he : a.getD t 0 = b.getD t 0) : mix a b (t + 1) = mix a b t := by
  rw [← mix_set hab ht, ← he]
  apply List.ext_getElem?
  intro i
  rw [List.getElem?_set]
  split
  · rename_i h
    subst h
    rw [if_pos (by rw [mix_len hab (by omega)]; exact ht), mix_get hab ht, List.getD_eq_getElem?_getD, List.getElem?_eq_getElem ht]
    rfl
  · rfl
theorem trn_nxt {w : Nat} {a b : List Nat} (hab : b.length = a.length) : ∀ k t, t + k = a.length → (trn w a b t).length < (trn w a b a.length).length →
    ∃ t', t' < a.length ∧ a.getD t' 0 ≠ b.getD t' 0 ∧ (trn w a b t').length = (trn w a b t).length ∧ mix a b t' = mix a b t
  | 0, t, h, hl => by
    rw [Nat.add_zero] at h
    rw [h] at hl
    omega
  | k + 1, t, h, hl => by
    by_cases he : a.getD t 0 = b.getD t 0
    · have h1 : trn w a b (t + 1) = trn w a b t := by rw [trn, if_pos he, List.append_nil]
      obtain ⟨t', h2, h3, h4, h5⟩ := trn_nxt (w := w) hab k (t + 1) (by omega) (by rw [h1]; exact hl)
      rw [h1] at h4
      rw [mix_same hab (by omega) he] at h5
      exact ⟨t', h2, h3, h4, h5⟩
    · exact ⟨t, by omega, he, rfl, rfl⟩
theorem trn_fin {w : Nat} {a b : List Nat} (hab : b.length = a.length) : ∀ k t, t + k = a.length → (trn w a b t).length = (trn w a b a.length).length → mix a b t = b
  | 0, t, h, _ => by
    unfold mix
    rw [List.take_of_length_le (by omega), List.drop_eq_nil_of_le (by omega), List.append_nil]
  | k + 1, t, h, hl => by
    by_cases he : a.getD t 0 = b.getD t 0
    · have h1 : trn w a b (t + 1) = trn w a b t := by rw [trn, if_pos he, List.append_nil]
      rw [← mix_same hab (by omega) he]
      exact trn_fin hab k (t + 1) (by omega) (by rw [h1]; exact hl)
    · have h1 := trn_up w a b (t + 1) k
      rw [show t + 1 + k = a.length by omega, trn, if_neg he, List.length_append, List.length_singleton] at h1
      omega
theorem trn_self (w : Nat) (a : List Nat) : ∀ n, trn w a a n = []
  | 0 => rfl
  | n + 1 => by rw [trn, trn_self w a n, if_pos rfl]; rfl
theorem trn_eq {w : Nat} {a b : List Nat} (hab : b.length = a.length) : (trn w a b a.length).length = 0 ↔ a = b := by
  constructor
  · intro h
    have := trn_fin (w := w) hab a.length 0 (by omega) (by rw [h]; rfl)
    simpa [mix] using this
  · intro h
    rw [← h, trn_self]
    rfl
theorem trn_set (w : Nat) (b : List Nat) (K v : Nat) (hK : K < b.length) : ∀ n, trn w b (b.set K v) n = if K < n ∧ b.getD K 0 ≠ v then [(((K % w : Nat) : Int), ((K / w : Nat) : Int))] else []
  | 0 => by rw [if_neg (by omega)]; rfl
  | n + 1 => by
    rw [trn, trn_set w b K v hK n]
    have hg : (b.set K v).getD n 0 = if K = n then v else b.getD n 0 := by
      rw [List.getD_eq_getElem?_getD, List.getElem?_set]
      split
      · rename_i h
        first | rfl | (rw [if_pos (by omega)]; rfl)
      · rw [List.getD_eq_getElem?_getD]
    rw [hg]
    by_cases hn : K = n
    · subst hn
      rw [if_pos rfl, if_neg (by omega)]
      by_cases hv : b.getD K 0 = v
      · rw [if_pos hv, if_neg (fun h => h.2 hv)]; rfl
      · rw [if_neg hv, if_pos ⟨by omega, hv⟩]; rfl
    · rw [if_neg hn, if_pos rfl, List.append_nil]
      have : (K < n ∧ b.getD K 0 ≠ v) ↔ (K < n + 1 ∧ b.getD K 0 ≠ v) := by constructor <;> (rintro ⟨h, h2⟩; exact ⟨by omega, h2⟩)
      simp only [this]
theorem idx_cell {W H t : Nat} (hW : 1 ≤ W ∧ W ≤ 256) (hH : 1 ≤ H ∧ H ≤ 256) (ht : t < W * H) : gIdx (W : Int) (H : Int) ((t % W : Nat) : Int) ((t / W : Nat) : Int) = (t : Int) ∧ gIdxE (W : Int) (H : Int) ((t % W : Nat) : Int) ((t / W : Nat) : Int) = 0 := by
  have h1 : t % W < W := Nat.mod_lt _ (by omega)
  have h2 : t / W < H := Nat.div_lt_of_lt_mul ht
  have h3 : t / W * W + t % W = t := Nat.div_add_mod' t W
  have hin : gIn (W : Int) (H : Int) ((t % W : Nat) : Int) ((t / W : Nat) : Int) = true := by
    obtain ⟨u, hu⟩ : ∃ u, u = t % W := ⟨_, rfl⟩
    obtain ⟨v, hv⟩ : ∃ v, v = t / W := ⟨_, rfl⟩
    rw [← hu] at h1
    rw [← hv] at h2
    rw [← hu, ← hv]
    simp only [gIn, gMay, btw, Bool.and_eq_true, decide_eq_true_eq]
    omega
  unfold gIdx gIdxE
  rw [hin]
  refine ⟨?_, rfl⟩
  show ((t / W : Nat) : Int) * (W : Int) + ((t % W : Nat) : Int) = (t : Int)
  rw [← Int.natCast_mul, ← Int.natCast_add, h3]
theorem cell_idx {W H : Nat} {x y : Int} (h : gIn (W : Int) (H : Int) x y = true) : ∃ K : Nat, y * (W : Int) + x = (K : Int) ∧ K < W * H ∧ ((K % W : Nat) : Int) = x ∧ ((K / W : Nat) : Int) = y := by
  simp only [gIn, gMay, btw, Bool.and_eq_true, decide_eq_true_eq] at h
  obtain ⟨X, rfl⟩ : ∃ X : Nat, x = X := ⟨x.toNat, by omega⟩
  obtain ⟨Y, rfl⟩ : ∃ Y : Nat, y = Y := ⟨y.toNat, by omega⟩
  refine ⟨Y * W + X, by rw [Int.natCast_add, Int.natCast_mul], ?_, ?_, ?_⟩
  · have : (Y + 1) * W ≤ H * W := Nat.mul_le_mul_right _ (by omega)
    rw [Nat.add_mul, Nat.one_mul] at this
    rw [Nat.mul_comm W H]
    omega
  · rw [Nat.mul_comm, Nat.mul_add_mod, Nat.mod_eq_of_lt (by omega)]
  · rw [Nat.mul_comm, Nat.mul_add_div (by omega), Nat.div_eq_of_lt (by omega), Nat.add_zero]
end Go.Proofs.YtcnebanpnnblbaaDoor
