/- Lists of cells, and of acts, that were handed in. -/
import Derived.Test.YteehbjdohionlaaDoorKG
import Derived.Test.YteehbjdohionlaaDoorK11
import Derived.Test.YteehbjdohionlaaDoorK13
namespace Go.Proofs.YteehbjdohionlaaDoor
open Go Go.K Go.ChangeShapes Go.WideShapes Go.ChangeAt Go.RowKit

/-- Cells that were handed in. -/
theorem pairs_of {P : Program} {β : Nat → Option Obj} {t u : TypeId} (ht : P.underlying t = some (.int .i64)) (hu : P.underlying u = some (.int .i64)) : ∀ {m : Nat} {xs : List Value}, xs.length = m * 2 → (∀ i, i < m → RdL P β [t, u] ((xs.drop (i * 2)).take 2)) →
    ∃ l : List (Int × Int), xs = fl2 l ∧ l.length = m ∧ ∀ c ∈ l, (-9223372036854775808 ≤ c.1 ∧ c.1 ≤ 9223372036854775807) ∧ -9223372036854775808 ≤ c.2 ∧ c.2 ≤ 9223372036854775807
  | 0, xs, hl, _ => ⟨[], by simpa [fl2] using hl, rfl, fun x hx => by cases hx⟩
  | m + 1, xs, hl, h => by
    match xs, hl with
    | [], hl => simp at hl
    | [_], hl => simp at hl; omega
    | x :: y :: r, hl =>
      obtain ⟨c1, r1, e1, h1, h2⟩ := (h 0 (by omega)).cons
      obtain ⟨c2, r2, e2, h3, h4⟩ := h2.cons
      simp only [Nat.zero_mul, List.drop_zero, List.take_succ_cons, List.take_zero, List.cons.injEq] at e1
      obtain ⟨rfl, rfl⟩ := e1
      simp only [List.cons.injEq] at e2
      obtain ⟨rfl, _⟩ := e2
      obtain ⟨a, rfl, ha⟩ := rd_i64 ht h1
      obtain ⟨b, rfl, hb⟩ := rd_i64 hu h3
      obtain ⟨l, rfl, hl2, hl3⟩ := pairs_of ht hu (m := m) (xs := r) (by simp at hl; omega) (fun i hi => by
        have := h (i + 1) (by omega)
        rwa [show (i + 1) * 2 = i * 2 + 2 by omega] at this)
      refine ⟨(a, b) :: l, rfl, by simp [hl2], fun c hc => ?_⟩
      rcases List.mem_cons.1 hc with rfl | hc
      · exact ⟨ha, hb⟩
      · exact hl3 c hc
structure PIn (β : Nat → Option Obj) (q : Option Addr) (n d : Nat) (l : List (Int × Int)) : Prop where
  len : l.length = n
  rng : ∀ c ∈ l, (-9223372036854775808 ≤ c.1 ∧ c.1 ≤ 9223372036854775807) ∧ -9223372036854775808 ≤ c.2 ∧ c.2 ≤ 9223372036854775807
  sl : SL β [] 2 n (fl2 l) q
  none : q = none → d = 0 ∧ n = 0
  cap : n ≤ d
theorem rd_pairs {P : Program} {β : Nat → Option Obj} {q : Option Addr} {n d : Nat} {xs : List Value} {by' : Nat} {t u : TypeId} (ht : P.underlying t = some (.int .i64)) (hu : P.underlying u = some (.int .i64)) (hs : SlR β [t, u].length n by' xs q d) (hr : ∀ i, i < n → RdL P β [t, u] ((xs.drop (i * [t, u].length)).take [t, u].length)) : ∃ l, PIn β q n d l := by
  have hs' : SlR β 2 n by' xs q d := hs
  obtain ⟨h1, h2, h3, h4, h5, h6⟩ := hs
  obtain ⟨l, rfl, e2, e3⟩ := pairs_of ht hu (m := n) (xs := xs) h5 hr
  exact ⟨l, e2, e3, SL.ofR (by omega) hs', fun h => ⟨h4 h, by have := h4 h; omega⟩, h1⟩
/-- Acts: cells that are put in, or taken out. -/
def fl3 (l : List ((Int × Int) × Bool)) : List Value := l.flatMap fun c => [.int .i64 c.1.1, .int .i64 c.1.2, .bool c.2]
theorem fl3_len : ∀ l : List ((Int × Int) × Bool), (fl3 l).length = l.length * 3
  | [] => rfl
  | c :: l => by
    have := fl3_len l
    rw [show fl3 (c :: l) = .int .i64 c.1.1 :: .int .i64 c.1.2 :: .bool c.2 :: fl3 l from rfl]
    simp only [List.length_cons, this]; omega
theorem acts_of {P : Program} {β : Nat → Option Obj} {t u r : TypeId} (ht : P.underlying t = some (.int .i64)) (hu : P.underlying u = some (.int .i64)) (hr : P.underlying r = some .bool) : ∀ {m : Nat} {xs : List Value}, xs.length = m * 3 → (∀ i, i < m → RdL P β [t, u, r] ((xs.drop (i * 3)).take 3)) →
    ∃ l : List ((Int × Int) × Bool), xs = fl3 l ∧ l.length = m
  | 0, xs, hl, _ => ⟨[], by simpa [fl3] using hl, rfl⟩
  | m + 1, xs, hl, h => by
    match xs, hl with
    | [], hl => simp at hl
    | [_], hl => simp at hl; omega
    | [_, _], hl => simp at hl; omega
    | x :: y :: z :: r', hl =>
      obtain ⟨c1, r1, e1, h1, h2⟩ := (h 0 (by omega)).cons
      obtain ⟨c2, r2, e2, h3, h4⟩ := h2.cons
      obtain ⟨c3, r3, e3, h5, h6⟩ := h4.cons
      simp only [Nat.zero_mul, List.drop_zero, List.take_succ_cons, List.take_zero, List.cons.injEq] at e1
      obtain ⟨rfl, rfl⟩ := e1
      simp only [List.cons.injEq] at e2
      obtain ⟨rfl, rfl⟩ := e2
      simp only [List.cons.injEq] at e3
      obtain ⟨rfl, _⟩ := e3
      obtain ⟨a, rfl, ha⟩ := rd_i64 ht h1
      obtain ⟨b, rfl, hb⟩ := rd_i64 hu h3
      obtain ⟨c, rfl⟩ := rd_bool hr h5
      obtain ⟨l, rfl, hl2⟩ := acts_of ht hu hr (m := m) (xs := r') (by simp at hl; omega) (fun i hi => by
        have := h (i + 1) (by omega)
        rwa [show (i + 1) * 3 = i * 3 + 3 by omega] at this)
      exact ⟨((a, b), c) :: l, rfl, by simp [hl2]⟩
structure TIn (β : Nat → Option Obj) (q : Option Addr) (n d : Nat) (l : List ((Int × Int) × Bool)) : Prop where
  len : l.length = n
  sl : SL β [] 3 n (fl3 l) q
theorem rd_acts {P : Program} {β : Nat → Option Obj} {q : Option Addr} {n d : Nat} {xs : List Value} {by' : Nat} {t u r : TypeId} (ht : P.underlying t = some (.int .i64)) (hu : P.underlying u = some (.int .i64)) (hb : P.underlying r = some .bool) (hs : SlR β [t, u, r].length n by' xs q d) (hr : ∀ i, i < n → RdL P β [t, u, r] ((xs.drop (i * [t, u, r].length)).take [t, u, r].length)) : ∃ l, TIn β q n d l := by
  have hs' : SlR β 3 n by' xs q d := hs
  obtain ⟨h1, h2, h3, h4, h5, h6⟩ := hs
  obtain ⟨l, rfl, e2⟩ := acts_of ht hu hb (m := n) (xs := xs) h5 hr
  exact ⟨l, e2, SL.ofR (by omega) hs'⟩
theorem fl3_get : ∀ {l : List ((Int × Int) × Bool)} {i : Nat} {c : (Int × Int) × Bool}, l[i]? = some c → (fl3 l)[i * 3]? = some (.int .i64 c.1.1) ∧ (fl3 l)[i * 3 + 1]? = some (.int .i64 c.1.2) ∧ (fl3 l)[i * 3 + 2]? = some (.bool c.2)
  | [], i, c, h => by simp at h
  | d :: l, 0, c, h => by
    simp only [List.getElem?_cons_zero, Option.some.injEq] at h
    subst h
    exact ⟨rfl, rfl, rfl⟩
  | d :: l, i + 1, c, h => by
    have ih := fl3_get (l := l) (i := i) (c := c) (by simpa using h)
    rw [show fl3 (d :: l) = .int .i64 d.1.1 :: .int .i64 d.1.2 :: .bool d.2 :: fl3 l from rfl, show (i + 1) * 3 = i * 3 + 1 + 1 + 1 by omega]
    simpa using ih
theorem cel3a {β : Nat → Option Obj} {σ : Heap} {b off : Nat} {l : List ((Int × Int) × Bool)} {i : Nat} {x y : Int} {z : Bool} (h : ∀ (j : Nat) (u : Value), (fl3 l)[j]? = some u → Cel β [] b (off + j) u) (hi : l[i]? = some ((x, y), z)) :
    ∀ (j : Nat) (v : Value), [Value.int .i64 x, .int .i64 y][j]? = some v → Cel β σ b (off + (i : Int).toNat * 3 + 0 + j) v := fun j v hv => by
  obtain ⟨g1, g2, g3⟩ := fl3_get hi
  rw [Int.toNat_natCast, Nat.add_zero, Nat.add_assoc]
  match j with
  | 0 => exact (h _ _ (by rw [← hv]; exact g1)).mono (fun _ hq => by cases hq)
  | 1 => exact (h _ _ (by rw [← hv]; exact g2)).mono (fun _ hq => by cases hq)
  | j + 2 => simp at hv
theorem cel3b {β : Nat → Option Obj} {σ : Heap} {b off : Nat} {l : List ((Int × Int) × Bool)} {i : Nat} {x y : Int} {z : Bool} (h : ∀ (j : Nat) (u : Value), (fl3 l)[j]? = some u → Cel β [] b (off + j) u) (hi : l[i]? = some ((x, y), z)) :
    Cel β σ b (off + (i : Int).toNat * 3 + 2) (.bool z) := by
  rw [Int.toNat_natCast, Nat.add_assoc]
  exact (h _ _ (fl3_get hi).2.2).mono (fun _ hq => by cases hq)
end Go.Proofs.YteehbjdohionlaaDoor
