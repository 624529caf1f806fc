/- Bits of words, and sets as words: plain laws. -/
import Derived.Test.YtcnebanpnnblbaaDoorK18
import Derived.Laws.BitsLemmas
namespace Go.K
open Go

theorem wraps_u64N (n : Int) (h0 : 0 ≤ n) (h1 : n < 2 ^ 64) : IntKind.u64.wrap n = n := wrap_u64I ⟨h0, h1⟩
theorem and_b {a b : Nat} (ha : a < 18446744073709551616) (hb : b < 18446744073709551616) : bits .and .u64 (a : Int) (b : Int) = ((a &&& b : Nat) : Int) := (bits_nat .u64 64 (by decide) wraps_u64N a b ha hb).1
theorem or_b {a b : Nat} (ha : a < 18446744073709551616) (hb : b < 18446744073709551616) : bits .or .u64 (a : Int) (b : Int) = ((a ||| b : Nat) : Int) := (bits_nat .u64 64 (by decide) wraps_u64N a b ha hb).2
def anx (a b : Nat) : Nat := (BitVec.ofNat 64 a &&& ~~~ BitVec.ofNat 64 b).toNat
theorem anx_b (a b : Nat) : bits .andNot .u64 (a : Int) (b : Int) = ((anx a b : Nat) : Int) := by
  simp only [bits, IntKind.bits, BitVec.ofInt_natCast]
  exact wraps_u64N _ (Int.natCast_nonneg _) (by exact_mod_cast (BitVec.isLt _))
theorem anx_lt (a b : Nat) : anx a b < 18446744073709551616 := BitVec.isLt _
theorem anx_tb {a b : Nat} (i : Nat) : (anx a b).testBit i = (decide (i < 64) && a.testBit i && !b.testBit i) := by
  rw [anx, BitVec.testBit_toNat, BitVec.getLsbD_and, BitVec.getLsbD_not, BitVec.getLsbD_ofNat, BitVec.getLsbD_ofNat]
  by_cases h : i < 64 <;> simp [h]
theorem shl_b {i : Nat} (hi : i < 64) : IntKind.u64.wrap (1 * 2 ^ (min ((i : Nat) : Int).toNat IntKind.u64.bits)) = ((2 ^ i : Nat) : Int) := by
  have e : min ((i : Nat) : Int).toNat IntKind.u64.bits = i := by
    show min ((i : Nat) : Int).toNat 64 = i
    omega
  rw [e, Int.one_mul]
  have h : (2 : Nat) ^ i < 2 ^ 64 := Nat.pow_lt_pow_right (by decide) hi
  rw [show ((2 : Int) ^ i) = ((2 ^ i : Nat) : Int) by simp]
  exact wrap_u64 h
theorem shr_b {a i : Nat} (hi : i ≤ 64) : ((a : Int)).fdiv (2 ^ (min ((i : Nat) : Int).toNat IntKind.u64.bits)) = ((a / 2 ^ i : Nat) : Int) := by
  have e : min ((i : Nat) : Int).toNat IntKind.u64.bits = i := by
    show min ((i : Nat) : Int).toNat 64 = i
    omega
  rw [e, Int.fdiv_eq_ediv_of_nonneg _ (Int.pow_nonneg (by decide)), show ((2 : Int) ^ i) = ((2 ^ i : Nat) : Int) by simp]
  exact (Int.natCast_ediv a (2 ^ i)).symm
theorem has_b {a i : Nat} : decide (((a / 2 ^ i &&& 1 : Nat) : Int) = 1) = a.testBit i := by
  rw [Nat.and_one_is_mod, Nat.testBit_eq_decide_div_mod_eq]
  congr 1
  apply propext
  omega

/-- A word of a set. -/
def wrd (f : Nat → Bool) (o : Nat) : Nat → Nat
  | 0 => 0
  | n + 1 => 2 ^ n * (f (o + n)).toNat + wrd f o n
theorem wrd_lt (f : Nat → Bool) (o : Nat) : ∀ n, wrd f o n < 2 ^ n
  | 0 => by simp [wrd]
  | n + 1 => by
    have := wrd_lt f o n
    have h2 : 2 ^ n * (f (o + n)).toNat ≤ 2 ^ n := by cases f (o + n) <;> simp
    rw [wrd, Nat.pow_succ]; omega
theorem wrd_tb (f : Nat → Bool) (o i : Nat) : ∀ n, (wrd f o n).testBit i = (decide (i < n) && f (o + i))
  | 0 => by simp [wrd]
  | n + 1 => by
    rw [wrd, Nat.testBit_two_pow_mul_add _ (wrd_lt f o n), wrd_tb f o i n]
    by_cases h : i < n
    · simp [h, Nat.lt_succ_of_lt h]
    · by_cases h2 : i = n
      · subst h2
        cases f (o + i) <;> simp
      · have h3 : ¬ i < n + 1 := by omega
        obtain ⟨d, hd⟩ : ∃ d, i - n = d + 1 := ⟨i - n - 1, by omega⟩
        rw [hd]
        cases f (o + n) <;> simp [h, h3, Nat.testBit_succ]
def W (f : Nat → Bool) (k : Nat) : Nat := wrd f (64 * k) 64
theorem W_lt (f : Nat → Bool) (k : Nat) : W f k < 18446744073709551616 := wrd_lt f _ 64
theorem W_tb (f : Nat → Bool) (k i : Nat) : (W f k).testBit i = (decide (i < 64) && f (64 * k + i)) := wrd_tb f _ i 64
def words (f : Nat → Bool) (nw : Nat) : List Nat := (List.range nw).map (W f)
def by64 (l : List Nat) : List Value := l.map fun n : Nat => .int .u64 (n : Int)
theorem words_len (f : Nat → Bool) (nw : Nat) : (words f nw).length = nw := by simp [words]
theorem by64_len (l : List Nat) : (by64 l).length = l.length := by simp [by64]
theorem words_get {f : Nat → Bool} {nw k : Nat} (h : k < nw) : (words f nw)[k]? = some (W f k) := by
  rw [words, List.getElem?_map, List.getElem?_range h]; rfl
theorem by64_get {f : Nat → Bool} {nw k : Nat} (h : k < nw) : (by64 (words f nw))[k]? = some (.int .u64 (W f k : Int)) := by
  rw [by64, List.getElem?_map, words_get h]; rfl
def upd (f : Nat → Bool) (i : Nat) (b : Bool) : Nat → Bool := fun j => if j = i then b else f j
theorem upd_upd (f : Nat → Bool) (i : Nat) (a b : Bool) : upd (upd f i a) i b = upd f i b := by
  funext j; simp only [upd]; split <;> rfl
theorem W_ext {x : Nat} {f : Nat → Bool} {k : Nat} (hx : x < 18446744073709551616) (h : ∀ i, i < 64 → x.testBit i = f (64 * k + i)) : x = W f k := by
  apply Nat.eq_of_testBit_eq
  intro i
  rw [W_tb]
  by_cases hi : i < 64
  · simp [hi, h i hi]
  · simp only [hi, decide_false, Bool.false_and]
    exact Nat.testBit_lt_two_pow (Nat.lt_of_lt_of_le hx (Nat.pow_le_pow_right (show 0 < 2 by decide) (show 64 ≤ i by omega)))
theorem W_clr (f : Nat → Bool) (i : Nat) : anx (W f (i / 64)) (2 ^ (i % 64)) = W (upd f i false) (i / 64) := by
  refine W_ext (anx_lt _ _) fun j hj => ?_
  rw [anx_tb, W_tb, Nat.testBit_two_pow, upd]
  have e : (64 * (i / 64) + j = i) ↔ (i % 64 = j) := by omega
  by_cases h : i % 64 = j
  · simp [h, e.2 h, hj]
  · simp [h, mt e.1 h, hj]
theorem W_or (f : Nat → Bool) (i : Nat) : W f (i / 64) ||| 2 ^ (i % 64) = W (upd f i true) (i / 64) := by
  refine W_ext (Nat.or_lt_two_pow (n := 64) (W_lt f _) (Nat.pow_lt_pow_right (by decide) (by omega))) fun j hj => ?_
  rw [Nat.testBit_or, W_tb, Nat.testBit_two_pow, upd]
  have e : (64 * (i / 64) + j = i) ↔ (i % 64 = j) := by omega
  by_cases h : i % 64 = j
  · simp [h, e.2 h]
  · simp [h, mt e.1 h, hj]
theorem W_other {f : Nat → Bool} {i k : Nat} {b : Bool} (h : k ≠ i / 64) : W (upd f i b) k = W f k := by
  refine (W_ext (W_lt f k) fun j hj => ?_).symm
  rw [W_tb, upd, if_neg (by omega)]
  simp [hj]
theorem words_upd (f : Nat → Bool) (i nw : Nat) (b : Bool) : (words f nw).set (i / 64) (W (upd f i b) (i / 64)) = words (upd f i b) nw := by
  apply List.ext_getElem?
  intro k
  rw [List.getElem?_set]
  by_cases h : i / 64 = k
  · subst h
    by_cases hk : i / 64 < nw
    · rw [if_pos rfl, if_pos (by rwa [words_len]), words_get hk]
    · rw [if_pos rfl, if_neg (by rwa [words_len]), List.getElem?_eq_none (by rw [words_len]; omega)]
  · rw [if_neg h]
    by_cases hk : k < nw
    · rw [words_get hk, words_get hk, W_other (fun e => h e.symm)]
    · rw [List.getElem?_eq_none (by rw [words_len]; omega), List.getElem?_eq_none (by rw [words_len]; omega)]
theorem by64_upd (f : Nat → Bool) (i nw : Nat) (b : Bool) : (by64 (words f nw)).set (i / 64) (.int .u64 (W (upd f i b) (i / 64) : Int)) = by64 (words (upd f i b) nw) := by
  rw [← words_upd, by64, by64, List.map_set]
theorem W_congr {f g : Nat → Bool} {k : Nat} (h : ∀ i, i < 64 → f (64 * k + i) = g (64 * k + i)) : W f k = W g k :=
  W_ext (W_lt f k) fun i hi => by rw [W_tb]; simp [hi, h i hi]
theorem words_congr {f g : Nat → Bool} {nw : Nat} (h : ∀ i, i < 64 * nw → f i = g i) : words f nw = words g nw := by
  unfold words
  apply List.map_congr_left
  intro k hk
  have := List.mem_range.1 hk
  exact W_congr fun i hi => h _ (by omega)
theorem words_inj {f g : Nat → Bool} {nw : Nat} (h : words f nw = words g nw) : ∀ i, i < 64 * nw → f i = g i := fun i hi => by
  have h1 := words_get (f := f) (k := i / 64) (nw := nw) (by omega)
  have h2 := words_get (f := g) (k := i / 64) (nw := nw) (by omega)
  rw [h, h2] at h1
  have h3 := congrArg (fun x => Nat.testBit x (i % 64)) (Option.some.inj h1)
  simp only [W_tb] at h3
  rw [show 64 * (i / 64) + i % 64 = i by omega] at h3
  have h4 : i % 64 < 64 := by omega
  simpa [h4] using h3.symm
theorem words_zero (nw : Nat) : by64 (words (fun _ => false) nw) = List.replicate nw (.int .u64 0) := by
  have : ∀ k, W (fun _ => false) k = 0 := fun k => (W_ext (by decide) fun i _ => by simp).symm
  apply List.ext_getElem?
  intro k
  by_cases hk : k < nw
  · rw [by64_get hk, this, List.getElem?_replicate, if_pos hk]; rfl
  · rw [List.getElem?_eq_none (by rw [by64_len, words_len]; omega), List.getElem?_eq_none (by rw [List.length_replicate]; omega)]
theorem wr_set {cs : List Value} {i : Nat} {v : Value} (h : i < cs.length) : Wr cs i [v] (cs.set i v) := by
  refine ⟨by rw [List.length_singleton]; exact h, ?_⟩
  rw [List.set_eq_take_append_cons_drop, if_pos h]; simp
/-- How many there are below n. -/
def cntB (f : Nat → Bool) : Nat → Nat
  | 0 => 0
  | n + 1 => cntB f n + (if f n then 1 else 0)
theorem cntB_le (f : Nat → Bool) : ∀ n, cntB f n ≤ n
  | 0 => Nat.le_refl _
  | n + 1 => by have := cntB_le f n; rw [cntB]; split <;> omega
theorem cntB_past {f : Nat → Bool} {n : Nat} (h : ∀ i, n ≤ i → f i = false) : ∀ k, cntB f (n + k) = cntB f n
  | 0 => rfl
  | k + 1 => by
    show cntB f (n + k) + (if f (n + k) then 1 else 0) = cntB f n
    rw [cntB_past h k, h (n + k) (by omega)]; rfl
end Go.K
