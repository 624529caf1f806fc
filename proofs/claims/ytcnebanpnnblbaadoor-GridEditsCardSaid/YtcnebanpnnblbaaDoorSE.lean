/- Edits handed in: rows of three whole numbers; whole numbers made of costs. -/
import Derived.Test.YtcnebanpnnblbaaDoorS5
namespace Go.Proofs.YtcnebanpnnblbaaDoor
open Go Go.K

abbrev Ed := (Int × Int) × Int
def fl3 (l : List Ed) : List Value := l.flatMap fun c => [.int .i64 c.1.1, .int .i64 c.1.2, .int .i64 c.2]
theorem fl3_len : ∀ l : List Ed, (fl3 l).length = l.length * 3
  | [] => rfl
  | c :: l => by
    have := fl3_len l
    rw [show fl3 (c :: l) = .int .i64 c.1.1 :: .int .i64 c.1.2 :: .int .i64 c.2 :: fl3 l from rfl]
    simp only [List.length_cons, this]
    omega
def i64B (n : Int) : Prop := -9223372036854775808 ≤ n ∧ n ≤ 9223372036854775807
theorem trips_of {P : Program} {β : Nat → Option Obj} {t u s : TypeId} (ht : P.underlying t = some (.int .i64)) (hu : P.underlying u = some (.int .i64)) (hs : P.underlying s = some (.int .i64)) : ∀ {m : Nat} {xs : List Value}, xs.length = m * 3 → (∀ i, i < m → RdL P β [t, u, s] ((xs.drop (i * 3)).take 3)) →
    ∃ l : List Ed, xs = fl3 l ∧ l.length = m ∧ ∀ c ∈ l, i64B c.1.1 ∧ i64B c.1.2 ∧ i64B c.2
  | 0, xs, hl, _ => ⟨[], by simpa [fl3] using hl, rfl, fun x hx => by cases hx⟩
  | m + 1, xs, hl, h => by
    match xs, hl with
    | [], hl => simp at hl
    | [_], hl => simp at hl; omega
    | [_, _], hl => simp at hl; omega
    | x :: y :: z :: r, hl =>
      obtain ⟨c1, r1, e1, h1, h2⟩ := (h 0 (by omega)).cons
      obtain ⟨c2, r2, e2, h3, h4⟩ := h2.cons
      obtain ⟨c3, r3, e3, h5, h6⟩ := h4.cons
      simp only [Nat.zero_mul, List.drop_zero, List.take_succ_cons, List.take_zero, List.cons.injEq] at e1
      obtain ⟨rfl, rfl⟩ := e1
      simp only [List.cons.injEq] at e2
      obtain ⟨rfl, rfl⟩ := e2
      simp only [List.cons.injEq] at e3
      obtain ⟨rfl, _⟩ := e3
      obtain ⟨a, rfl, ha⟩ := rd_i64 ht h1
      obtain ⟨b, rfl, hb⟩ := rd_i64 hu h3
      obtain ⟨d, rfl, hd⟩ := rd_i64 hs h5
      obtain ⟨l, rfl, hl2, hl3⟩ := trips_of ht hu hs (m := m) (xs := r) (by simp at hl; omega) (fun i hi => by
        have := h (i + 1) (by omega)
        rwa [show (i + 1) * 3 = i * 3 + 3 by omega] at this)
      refine ⟨((a, b), d) :: l, rfl, by simp [hl2], fun c hc => ?_⟩
      rcases List.mem_cons.1 hc with rfl | hc
      · exact ⟨ha, hb, hd⟩
      · exact hl3 c hc
structure EIn (β : Nat → Option Obj) (q : Option Addr) (n d : Nat) (l : List Ed) : Prop where
  len : l.length = n
  rng : ∀ c ∈ l, i64B c.1.1 ∧ i64B c.1.2 ∧ i64B c.2
  sl : SL β [] 3 n (fl3 l) q
  none : q = none → d = 0 ∧ n = 0
  cap : n ≤ d
theorem rd_trips {P : Program} {β : Nat → Option Obj} {q : Option Addr} {n d : Nat} {xs : List Value} {by' : Nat} {t u s : TypeId} (ht : P.underlying t = some (.int .i64)) (hu : P.underlying u = some (.int .i64)) (hs' : P.underlying s = some (.int .i64)) (hs : SlR β [t, u, s].length n by' xs q d) (hr : ∀ i, i < n → RdL P β [t, u, s] ((xs.drop (i * [t, u, s].length)).take [t, u, s].length)) : ∃ l, EIn β q n d l := by
  have hs2 : SlR β 3 n by' xs q d := hs
  obtain ⟨h1, h2, h3, h4, h5, h6⟩ := hs
  obtain ⟨l, rfl, e2, e3⟩ := trips_of ht hu hs' (m := n) (xs := xs) h5 hr
  exact ⟨l, e2, e3, SL.ofR (by omega) hs2, fun h => ⟨h4 h, by have := h4 h; omega⟩, h1⟩
theorem fl3_get : ∀ {l : List Ed} {i : Nat} {c : Ed}, l[i]? = some c → (fl3 l)[i * 3]? = some (.int .i64 c.1.1) ∧ (fl3 l)[i * 3 + 1]? = some (.int .i64 c.1.2) ∧ (fl3 l)[i * 3 + 2]? = some (.int .i64 c.2)
  | [], i, c, h => by simp at h
  | d :: l, 0, c, h => by
    simp only [List.getElem?_cons_zero, Option.some.injEq] at h
    subst h
    exact ⟨rfl, rfl, rfl⟩
  | d :: l, i + 1, c, h => by
    have := fl3_get (l := l) (i := i) (c := c) (by simpa using h)
    rw [show (i + 1) * 3 = i * 3 + 3 by omega, show i * 3 + 3 + 1 = i * 3 + 1 + 3 by omega, show i * 3 + 3 + 2 = i * 3 + 2 + 3 by omega]
    exact this
theorem cel3 {β : Nat → Option Obj} {σ : Heap} {b off : Nat} {l : List Ed} {i : Nat} {c : Ed} (h : ∀ (j : Nat) (u : Value), (fl3 l)[j]? = some u → Cel β σ b (off + j) u) (hi : l[i]? = some c) :
    Cel β σ b (off + i * 3) (.int .i64 c.1.1) ∧ Cel β σ b (off + i * 3 + 1) (.int .i64 c.1.2) ∧ Cel β σ b (off + i * 3 + 2) (.int .i64 c.2) := by
  obtain ⟨h1, h2, h3⟩ := fl3_get hi
  exact ⟨h _ _ h1, by have := h _ _ h2; rwa [show off + i * 3 + 1 = off + (i * 3 + 1) by omega], by have := h _ _ h3; rwa [show off + i * 3 + 2 = off + (i * 3 + 2) by omega]⟩
theorem cel3n {β : Nat → Option Obj} {σ : Heap} {b off : Nat} {l : List Ed} {i : Nat} {c : Ed} (h : ∀ (j : Nat) (u : Value), (fl3 l)[j]? = some u → Cel β σ b (off + j) u) (hi : l[i]? = some c) :
    ∀ j v, [Value.int .i64 c.1.1, .int .i64 c.1.2, .int .i64 c.2][j]? = some v → Cel β σ b (off + i * 3 + j) v := by
  obtain ⟨h1, h2, h3⟩ := cel3 h hi
  intro j v hj
  match j with
  | 0 => simp only [List.getElem?_cons_zero, Option.some.injEq] at hj; subst hj; exact h1
  | 1 => simp only [List.getElem?_cons_succ, List.getElem?_cons_zero, Option.some.injEq] at hj; subst hj; exact h2
  | 2 => simp only [List.getElem?_cons_succ, List.getElem?_cons_zero, Option.some.injEq] at hj; subst hj; exact h3
  | j + 3 => simp at hj
theorem cel3c {β : Nat → Option Obj} {σ : Heap} {b off : Nat} {l : List Ed} {i : Nat} {c : Ed} (h : ∀ (j : Nat) (u : Value), (fl3 l)[j]? = some u → Cel β σ b (off + j) u) (hi : l[i]? = some c) :
    ∀ j v, [Value.int .i64 c.1.1, .int .i64 c.1.2][j]? = some v → Cel β σ b (off + i * 3 + j) v := by
  obtain ⟨h1, h2, h3⟩ := cel3 h hi
  intro j v hj
  match j with
  | 0 => simp only [List.getElem?_cons_zero, Option.some.injEq] at hj; subst hj; exact h1
  | 1 => simp only [List.getElem?_cons_succ, List.getElem?_cons_zero, Option.some.injEq] at hj; subst hj; exact h2
  | j + 2 => simp at hj
/-- Costs as whole numbers. -/
def iv (l : List Nat) : List Value := l.map fun (n : Nat) => Value.int .i64 (n : Int)
theorem iv_len (l : List Nat) : (iv l).length = l.length := by simp [iv]
theorem iv_get {l : List Nat} {i n : Nat} (h : l[i]? = some n) : (iv l)[i]? = some (.int .i64 (n : Int)) := by simp [iv, h]
theorem iv_set (l : List Nat) (i n : Nat) : (iv l).set i (.int .i64 (n : Int)) = iv (l.set i n) := by unfold iv; rw [List.map_set]
/-- The first j costs, and noughts behind them. -/
def ivP (l : List Nat) (j : Nat) : List Nat := l.take j ++ List.replicate (l.length - j) 0
theorem ivP_len (l : List Nat) (j : Nat) (h : j ≤ l.length) : (ivP l j).length = l.length := by
  unfold ivP
  rw [List.length_append, List.length_take, List.length_replicate]
  omega
theorem ivP_all (l : List Nat) : ivP l l.length = l := by
  unfold ivP
  rw [Nat.sub_self, List.take_length]
  simp
theorem ivP_set {l : List Nat} {j x : Nat} (h : l[j]? = some x) : (ivP l j).set j x = ivP l (j + 1) := by
  have hj : j < l.length := (List.getElem?_eq_some_iff.1 h).1
  unfold ivP
  rw [List.set_append_right _ _ (by rw [List.length_take]; omega), List.length_take, Nat.min_eq_left (by omega), Nat.sub_self, show l.length - j = (l.length - (j + 1)) + 1 by omega, List.replicate_succ, List.set_cons_zero, List.take_add_one, h, List.append_assoc]
  rfl
theorem iv_zero (n : Nat) : (List.replicate n [Value.int .i64 0]).flatten = iv (List.replicate n 0) := by
  induction n with
  | zero => rfl
  | succ n ih => rw [List.replicate_succ, List.flatten_cons, ih]; rfl
end Go.Proofs.YtcnebanpnnblbaaDoor
