/- The program logic, eleventh part: slices that can be read, wherever they lie. -/
import Derived.Test.YtcnebanpnnblbaaDoorK10
import Derived.Test.YtcnebanpnnblbaaDoorKG
namespace Go.K
open Go Go.RowKit

/-- The m elements, n cells each, of the slice that begins at p. -/
def SL (β : Nat → Option Obj) (σ : Heap) (n m : Nat) (xs : List Value) (p : Option Addr) : Prop :=
  xs.length = m * n ∧ (0 < m → ∃ b off, p = some ⟨b, off, none⟩ ∧ ∀ (j : Nat) (u : Value), xs[j]? = some u → Cel β σ b (off + j) u)

theorem SL.mono {β : Nat → Option Obj} {σ σ' : Heap} {n m : Nat} {xs : List Value} {p : Option Addr} (hs : ∀ q ∈ σ, q ∈ σ') (h : SL β σ n m xs p) : SL β σ' n m xs p :=
  ⟨h.1, fun hm => by obtain ⟨b, off, h1, h2⟩ := h.2 hm; exact ⟨b, off, h1, fun j u hj => (h2 j u hj).mono hs⟩⟩
theorem SL.up {β β' : Nat → Option Obj} {σ : Heap} {n m : Nat} {xs : List Value} {p : Option Addr} (hb : ∀ b o, β b = some o → β' b = some o) (h : SL β σ n m xs p) : SL β' σ n m xs p :=
  ⟨h.1, fun hm => by
    obtain ⟨b, off, h1, h2⟩ := h.2 hm
    refine ⟨b, off, h1, fun j u hj => ?_⟩
    rcases h2 j u hj with h3 | ⟨c, e, fz, h3, h4⟩
    · exact .inl h3
    · exact .inr ⟨c, e, fz, hb _ _ h3, h4⟩⟩
theorem SL.ofR {β : Nat → Option Obj} {σ : Heap} {n m by' : Nat} {xs : List Value} {p : Option Addr} {c : Nat} (hn : 0 < n) (h : SlR β n m by' xs p c) : SL β σ n m xs p := by
  obtain ⟨_, _, _, _, h5, h6⟩ := h
  refine ⟨h5, fun hm => ?_⟩
  obtain ⟨b, off, h7, h8⟩ := h6 (Nat.mul_pos hm hn)
  exact ⟨b, off, h7, fun j u hj => .inr (h8 j u hj)⟩
theorem SL.ofVec {β : Nat → Option Obj} {σ φ : Heap} {e n m : Nat} {xs : List Value} {p : Option Addr} {c : Nat} (h : Vec e n m xs (.slice p m c) φ) (hs : ∀ q ∈ φ, q ∈ σ) : SL β σ n m xs p := by
  obtain ⟨h1, h2⟩ := h
  refine ⟨h1, fun hm => ?_⟩
  rcases h2 with ⟨_, h3, _⟩ | ⟨g, cap, sp, h3, h4, _⟩
  · omega
  · simp only [Value.slice.injEq] at h3
    obtain ⟨rfl, _, _⟩ := h3
    refine ⟨g, 0, rfl, fun j u hj => .inl ⟨xs ++ sp, e, hs _ (by rw [h4]; exact List.mem_cons_self), ?_⟩⟩
    have := (List.getElem?_eq_some_iff.1 hj).1
    rw [Nat.zero_add, List.getElem?_append_left this]; exact hj
theorem SL.ofSlc {β : Nat → Option Obj} {σ : Heap} {n m : Nat} {xs : List Value} {p : Option Addr} {c : Nat} (h : Slc β σ n m xs (.slice p m c)) : SL β σ n m xs p := by
  obtain ⟨h1, q, d, h2, h3⟩ := h
  simp only [Value.slice.injEq] at h2
  obtain ⟨rfl, _, rfl⟩ := h2
  refine ⟨h1, fun hm => ?_⟩
  rcases h3 with ⟨_, h4, _⟩ | ⟨b, off, h4, h5⟩
  · omega
  · exact ⟨b, off, h4, h5⟩

section
variable {C : Cx} {L : Look} {σ : Heap} {g : Bool} {o : Oper}
theorem qt_load1_cel {t : TypeId} {x : Operand} {gx : Bool} {b off : Nat} {d : TypeDesc} {v : Value} (ho : o.op = .load t x) (hx : opnd L x = some (gx, .pointer (some ⟨b, off, none⟩))) (hi : g = true → gx = true)
    (hu : C.T.u t = some d) (ha : aggD d = false) (hc : g = true → Cel C.E.β σ b off v) : Qt C L σ g o v :=
  qt_val fun ac w hL hO hg => by simp [execOp, ho, opnd_ev hL hx (hi hg), run_load1 hu ha ((hc hg).ok hO)]
theorem qt_loadN_cel {t : TypeId} {x : Operand} {gx : Bool} {b off : Nat} {vs : List Value} {d : TypeDesc} {z : Value} {n m : Nat} (ho : o.op = .load t x) (hx : opnd L x = some (gx, .pointer (some ⟨b, off, none⟩))) (hi : g = true → gx = true)
    (hu : C.T.u t = some d) (ha : aggD d = true) (hz : C.T.i t = some (z, n, m)) (hl : vs.length = n) (hc : g = true → ∀ j v, vs[j]? = some v → Cel C.E.β σ b (off + j) v) : Qt C L σ g o (.agg vs.toArray) :=
  qt_val fun ac w hL hO hg => by simp [execOp, ho, opnd_ev hL hx (hi hg), run_loadN hu ha hz hl (fun j v hj => (hc hg j v hj).ok hO)]
end

/-! ### Lists of pairs of whole numbers -/
def fl2 (l : List (Int × Int)) : List Value := l.flatMap fun c => [.int .i64 c.1, .int .i64 c.2]
theorem fl2_len : ∀ l : List (Int × Int), (fl2 l).length = l.length * 2
  | [] => rfl
  | c :: l => by
    have := fl2_len l
    simp only [fl2, List.flatMap_cons, List.length_append, List.length_cons, List.length_nil] at this ⊢
    omega
theorem fl2_append (l r : List (Int × Int)) : fl2 (l ++ r) = fl2 l ++ fl2 r := by simp [fl2]
theorem fl2_get : ∀ {l : List (Int × Int)} {i : Nat} {c : Int × Int}, l[i]? = some c → (fl2 l)[i * 2]? = some (.int .i64 c.1) ∧ (fl2 l)[i * 2 + 1]? = some (.int .i64 c.2)
  | [], i, c, h => by simp at h
  | d :: l, 0, c, h => by
    simp only [List.getElem?_cons_zero, Option.some.injEq] at h
    subst h
    exact ⟨rfl, rfl⟩
  | d :: l, i + 1, c, h => by
    have := fl2_get (l := l) (i := i) (c := c) (by simpa using h)
    have e1 : (i + 1) * 2 = i * 2 + 2 := by omega
    have e2 : (i + 1) * 2 + 1 = i * 2 + 1 + 2 := by omega
    rw [e1, show i * 2 + 2 + 1 = i * 2 + 1 + 2 by omega]
    exact this
theorem fl2_one {l : List (Int × Int)} : (fl2 l).all Value.oneCell' = true := by
  induction l with
  | nil => rfl
  | cons c l ih => simp only [fl2, List.flatMap_cons, List.all_append, Bool.and_eq_true]; exact ⟨rfl, ih⟩
theorem cel2 {β : Nat → Option Obj} {σ : Heap} {b off : Nat} {l : List (Int × Int)} {i : Nat} {c : Int × Int} (h : ∀ (j : Nat) (u : Value), (fl2 l)[j]? = some u → Cel β σ b (off + j) u) (hi : l[i]? = some c) :
    ∀ j v, [Value.int .i64 c.1, .int .i64 c.2][j]? = some v → Cel β σ b (off + i * 2 + j) v := by
  obtain ⟨h1, h2⟩ := fl2_get hi
  intro j v hj
  match j with
  | 0 => simp only [List.getElem?_cons_zero, Option.some.injEq] at hj; subst hj; exact h _ _ h1
  | 1 => simp only [List.getElem?_cons_succ, List.getElem?_cons_zero, Option.some.injEq] at hj; subst hj; have := h _ _ h2; rwa [show off + i * 2 + 1 = off + (i * 2 + 1) by omega]
  | j + 2 => simp at hj
end Go.K
