/- Sets as bytes: plain laws. -/
import Derived.Test.YthmiiamcmnciiaaDoorK19
namespace Go.K
open Go

theorem or_b8 {a b : Nat} (ha : a < 256) (hb : b < 256) : bits .or .u8 (a : Int) (b : Int) = ((a ||| b : Nat) : Int) := (bits_nat .u8 8 (by decide) wraps_u8 a b ha hb).2
theorem shl_b8 {i : Nat} (hi : i < 8) : IntKind.u8.wrap (1 * 2 ^ (min ((i : Nat) : Int).toNat IntKind.u8.bits)) = ((2 ^ i : Nat) : Int) := by
  have e : min ((i : Nat) : Int).toNat IntKind.u8.bits = i := by
    show min ((i : Nat) : Int).toNat 8 = i
    omega
  rw [e, Int.one_mul]
  have h : (2 : Nat) ^ i < 2 ^ 8 := Nat.pow_lt_pow_right (by decide) hi
  rw [show ((2 : Int) ^ i) = ((2 ^ i : Nat) : Int) by simp]
  exact wraps_u8 _ (Int.natCast_nonneg _) (by exact_mod_cast h)
/-- A byte of a set. -/
def Y8 (f : Nat → Bool) (k : Nat) : Nat := wrd f (8 * k) 8
theorem Y8_lt (f : Nat → Bool) (k : Nat) : Y8 f k < 256 := wrd_lt f _ 8
theorem Y8_tb (f : Nat → Bool) (k i : Nat) : (Y8 f k).testBit i = (decide (i < 8) && f (8 * k + i)) := wrd_tb f _ i 8
theorem Y8_ext {x : Nat} {f : Nat → Bool} {k : Nat} (hx : x < 256) (h : ∀ i, i < 8 → x.testBit i = f (8 * k + i)) : x = Y8 f k := by
  apply Nat.eq_of_testBit_eq
  intro i
  rw [Y8_tb]
  by_cases hi : i < 8
  · simp [hi, h i hi]
  · simp only [hi, decide_false, Bool.false_and]
    exact Nat.testBit_lt_two_pow (Nat.lt_of_lt_of_le hx (Nat.pow_le_pow_right (show 0 < 2 by decide) (show 8 ≤ i by omega)))
theorem Y8_or (f : Nat → Bool) (i : Nat) : Y8 f (i / 8) ||| 2 ^ (i % 8) = Y8 (upd f i true) (i / 8) := by
  refine Y8_ext (Nat.or_lt_two_pow (n := 8) (Y8_lt f _) (Nat.pow_lt_pow_right (by decide) (by omega))) fun j hj => ?_
  rw [Nat.testBit_or, Y8_tb, Nat.testBit_two_pow, upd]
  have e : (8 * (i / 8) + j = i) ↔ (i % 8 = j) := by omega
  by_cases h : i % 8 = j
  · simp [h, e.2 h]
  · simp [h, mt e.1 h, hj]
theorem Y8_other {f : Nat → Bool} {i k : Nat} {b : Bool} (h : k ≠ i / 8) : Y8 (upd f i b) k = Y8 f k := by
  refine (Y8_ext (Y8_lt f k) fun j hj => ?_).symm
  rw [Y8_tb, upd, if_neg (by omega)]
  simp [hj]
theorem Y8_congr {f g : Nat → Bool} {k : Nat} (h : ∀ i, i < 8 → f (8 * k + i) = g (8 * k + i)) : Y8 f k = Y8 g k :=
  Y8_ext (Y8_lt f k) fun i hi => by rw [Y8_tb]; simp [hi, h i hi]
def bytL (f : Nat → Bool) (n : Nat) : List Nat := (List.range n).map (Y8 f)
theorem bytL_len (f : Nat → Bool) (n : Nat) : (bytL f n).length = n := by simp [bytL]
theorem bytL_get {f : Nat → Bool} {n k : Nat} (h : k < n) : (bytL f n)[k]? = some (Y8 f k) := by
  rw [bytL, List.getElem?_map, List.getElem?_range h]; rfl
def bv8 (l : List Nat) : List Value := l.map fun n : Nat => .int .u8 (n : Int)
theorem bv8_get {f : Nat → Bool} {n k : Nat} (h : k < n) : (bv8 (bytL f n))[k]? = some (.int .u8 (Y8 f k : Int)) := by
  rw [bv8, List.getElem?_map, bytL_get h]; rfl
theorem bv8_len (l : List Nat) : (bv8 l).length = l.length := by simp [bv8]
theorem bv8_upd (f : Nat → Bool) (i n : Nat) (b : Bool) : (bv8 (bytL f n)).set (i / 8) (.int .u8 (Y8 (upd f i b) (i / 8) : Int)) = bv8 (bytL (upd f i b) n) := by
  apply List.ext_getElem?
  intro k
  rw [List.getElem?_set]
  by_cases hk : k < n
  · by_cases h : i / 8 = k
    · subst h
      rw [if_pos rfl, if_pos (by rwa [bv8_len, bytL_len]), bv8_get hk]
    · rw [if_neg h, bv8_get hk, bv8_get hk, Y8_other (fun e => h e.symm)]
  · rw [List.getElem?_eq_none (l := bv8 (bytL (upd f i b) n)) (by rw [bv8_len, bytL_len]; omega)]
    split
    · rw [if_neg (by rw [bv8_len, bytL_len]; omega)]
    · exact List.getElem?_eq_none (by rw [bv8_len, bytL_len]; omega)
theorem bv8_zero (n : Nat) : bv8 (bytL (fun _ => false) n) = List.replicate n (.int .u8 0) := by
  have : ∀ k, Y8 (fun _ => false) k = 0 := fun k => (Y8_ext (by decide) fun i _ => by simp).symm
  apply List.ext_getElem?
  intro k
  by_cases hk : k < n
  · rw [bv8_get hk, this, List.getElem?_replicate, if_pos hk]; rfl
  · rw [List.getElem?_eq_none (by rw [bv8_len, bytL_len]; omega), List.getElem?_eq_none (by rw [List.length_replicate]; omega)]
theorem or_raw8 {f : Nat → Bool} {i : Nat} : bits .or .u8 (Y8 f (i / 8) : Int) (IntKind.u8.wrap (1 * 2 ^ min ((i : Int) % 8).toNat IntKind.u8.bits)) = (Y8 (upd f i true) (i / 8) : Int) := by
  have e := shl_b8 (i := i % 8) (by omega)
  rw [show ((i % 8 : Nat) : Int) = (i : Int) % 8 by omega] at e
  rw [e, or_b8 (Y8_lt _ _) (Nat.pow_lt_pow_right (n := 8) (by decide) (by omega)), Y8_or]
/-- The numbers that are in a set, and the set of numbers. -/
def numL (f : Nat → Bool) (n : Nat) : List Nat := (List.range n).filter f
def updL (l : List Nat) : Nat → Bool := fun i => decide (i ∈ l)
theorem updL_snoc (l : List Nat) (i : Nat) : updL (l ++ [i]) = upd (updL l) i true := by
  funext j
  simp only [updL, upd, List.mem_append, List.mem_singleton]
  by_cases h : j = i
  · simp [h]
  · simp [h]
theorem updL_full {f : Nat → Bool} {n : Nat} (h : ∀ i, n ≤ i → f i = false) : updL (numL f n) = f := by
  funext i
  unfold updL numL
  rw [Bool.eq_iff_iff, decide_eq_true_eq, List.mem_filter, List.mem_range]
  constructor
  · exact fun h1 => h1.2
  · intro h1
    refine ⟨?_, h1⟩
    rcases Nat.lt_or_ge i n with h2 | h2
    · exact h2
    · rw [h i h2] at h1; cases h1
end Go.K
