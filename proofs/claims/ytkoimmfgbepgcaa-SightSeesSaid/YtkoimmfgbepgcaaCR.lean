/- Lists of cells that were handed in. -/
import Derived.Test.YtkoimmfgbepgcaaCS
namespace Go.Proofs.Ytkoimmfgbepgcaa
open Go Go.K Go.ChangeShapes Go.WideShapes Go.ChangeAt Go.RowKit

/-- Cells that were handed in. -/
theorem pairs_of {P : Program} {β : Nat → Option Obj} {t u : TypeId} (ht : P.underlying t = some (.int .i64)) (hu : P.underlying u = some (.int .i64)) : ∀ {m : Nat} {xs : List Value}, xs.length = m * 2 → (∀ i, i < m → RdL P β [t, u] ((xs.drop (i * 2)).take 2)) →
    ∃ l : List (Int × Int), xs = fl2 l ∧ l.length = m ∧ ∀ c ∈ l, (-9223372036854775808 ≤ c.1 ∧ c.1 ≤ 9223372036854775807) ∧ -9223372036854775808 ≤ c.2 ∧ c.2 ≤ 9223372036854775807
  | 0, xs, hl, _ => ⟨[], by simpa [fl2] using hl, rfl, fun x hx => by cases hx⟩
  | m + 1, xs, hl, h => by
    match xs, hl with
    | [], hl => simp at hl
    | [_], hl => simp at hl; omega
    | x :: y :: r, hl =>
      obtain ⟨c1, r1, e1, h1, h2⟩ := (h 0 (by omega)).cons
      obtain ⟨c2, r2, e2, h3, h4⟩ := h2.cons
      simp only [Nat.zero_mul, List.drop_zero, List.take_succ_cons, List.take_zero, List.cons.injEq] at e1
      obtain ⟨rfl, rfl⟩ := e1
      simp only [List.cons.injEq] at e2
      obtain ⟨rfl, _⟩ := e2
      obtain ⟨a, rfl, ha⟩ := rd_i64 ht h1
      obtain ⟨b, rfl, hb⟩ := rd_i64 hu h3
      obtain ⟨l, rfl, hl2, hl3⟩ := pairs_of ht hu (m := m) (xs := r) (by simp at hl; omega) (fun i hi => by
        have := h (i + 1) (by omega)
        rwa [show (i + 1) * 2 = i * 2 + 2 by omega] at this)
      refine ⟨(a, b) :: l, rfl, by simp [hl2], fun c hc => ?_⟩
      rcases List.mem_cons.1 hc with rfl | hc
      · exact ⟨ha, hb⟩
      · exact hl3 c hc
structure PIn (β : Nat → Option Obj) (q : Option Addr) (n d : Nat) (l : List (Int × Int)) : Prop where
  len : l.length = n
  rng : ∀ c ∈ l, (-9223372036854775808 ≤ c.1 ∧ c.1 ≤ 9223372036854775807) ∧ -9223372036854775808 ≤ c.2 ∧ c.2 ≤ 9223372036854775807
  sl : SL β [] 2 n (fl2 l) q
  none : q = none → d = 0 ∧ n = 0
  cap : n ≤ d
theorem rd_pairs {P : Program} {β : Nat → Option Obj} {q : Option Addr} {n d : Nat} {xs : List Value} {by' : Nat} {t u : TypeId} (ht : P.underlying t = some (.int .i64)) (hu : P.underlying u = some (.int .i64)) (hs : SlR β [t, u].length n by' xs q d) (hr : ∀ i, i < n → RdL P β [t, u] ((xs.drop (i * [t, u].length)).take [t, u].length)) : ∃ l, PIn β q n d l := by
  have hs' : SlR β 2 n by' xs q d := hs
  obtain ⟨h1, h2, h3, h4, h5, h6⟩ := hs
  obtain ⟨l, rfl, e2, e3⟩ := pairs_of ht hu (m := n) (xs := xs) h5 hr
  exact ⟨l, e2, e3, SL.ofR (by omega) hs', fun h => ⟨h4 h, by have := h4 h; omega⟩, h1⟩
end Go.Proofs.Ytkoimmfgbepgcaa
