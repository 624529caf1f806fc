/- Masks: bytes and their bits; plain laws. -/
import Derived.Test.YthmiiamcmnciiaaDoorA3
namespace Go.Proofs.YthmiiamcmnciiaaDoor
open Go Go.K

def below (f : Nat → Bool) (i : Nat) : Nat → Bool := fun j => decide (j < i) && f j
theorem below_zero (f : Nat → Bool) : below f 0 = fun _ => false := by funext j; simp [below]
theorem below_t {f : Nat → Bool} {i : Nat} (h : f i = true) : below f (i + 1) = upd (below f i) i true := by
  funext j
  simp only [below, upd]
  by_cases e : j = i
  · subst e; simp [h]
  · rw [if_neg e]
    congr 1
    apply decide_eq_decide.2
    omega
theorem below_f {f : Nat → Bool} {i : Nat} (h : f i = false) : below f (i + 1) = below f i := by
  funext j
  simp only [below]
  by_cases e : j = i
  · subst e; simp [h]
  · congr 1
    apply decide_eq_decide.2
    omega
theorem below_full {f : Nat → Bool} {n : Nat} (h : ∀ i, n ≤ i → f i = false) : below f n = f := by
  funext j
  simp only [below]
  by_cases e : j < n
  · simp [e]
  · rw [h j (by omega)]; simp
def bitB (l : List Nat) (i : Nat) : Bool := (l.getD (i / 8) 0).testBit (i % 8)
structure OkB (n : Nat) (l : List Nat) : Prop where
  len : l.length = (n + 7) / 8
  past : ∀ i, n ≤ i → bitB l i = false
theorem bitB_past {l : List Nat} {i : Nat} (h : 8 * l.length ≤ i) : bitB l i = false := by
  unfold bitB
  rw [List.getD_eq_getElem?_getD, List.getElem?_eq_none (by omega)]
  simp
theorem bitB_get {l : List Nat} {i x : Nat} (h : l[i / 8]? = some x) : bitB l i = x.testBit (i % 8) := by
  unfold bitB
  rw [List.getD_eq_getElem?_getD, h]; rfl
theorem celL_pst {w : Int} {f : Nat → Bool} {n m : Nat} (hf : ∀ i, n ≤ i → f i = false) (h : n ≤ m) : celL w f m = celL w f n := by
  obtain ⟨k, rfl⟩ : ∃ k, m = n + k := ⟨m - n, by omega⟩
  induction k with
  | zero => rfl
  | succ k ih => rw [← Nat.add_assoc, celL_step, hf (n + k) (by omega), if_neg (by simp)]; exact ih (by omega)
/-- Bytes of their bits. -/
theorem bytL_bitB {l : List Nat} (hl : Byt l) : bytL (bitB l) l.length = l := by
  apply List.ext_getElem?
  intro k
  by_cases hk : k < l.length
  · rw [bytL_get hk, List.getElem?_eq_getElem hk]
    have hx := List.getElem?_eq_getElem hk
    rw [← Y8_ext (f := bitB l) (k := k) (hl _ (List.getElem_mem hk)) fun i hi => ?_]
    rw [bitB_get (show l[(8 * k + i) / 8]? = some l[k] by rw [show (8 * k + i) / 8 = k by omega]; exact hx), show (8 * k + i) % 8 = i by omega]
  · rw [List.getElem?_eq_none (by rw [bytL_len]; omega), List.getElem?_eq_none (by omega)]
theorem cel8q {β : Nat → Option Obj} {σ : Heap} {b off i n : Nat} {l : List Nat} (h : ∀ (j : Nat) (u : Value), (by8 l)[j]? = some u → Cel β [] b (off + j) u) (hi : l[i / 8]? = some n) : Cel β σ b (off + ((i : Int) / 8).toNat * 1) (.int .u8 (n : Int)) := by
  have := cel8 h hi
  rw [show ((i : Int) / 8).toNat = ((i / 8 : Nat) : Int).toNat by omega]
  exact this.mono (fun _ hq => by cases hq)
end Go.Proofs.YthmiiamcmnciiaaDoor
