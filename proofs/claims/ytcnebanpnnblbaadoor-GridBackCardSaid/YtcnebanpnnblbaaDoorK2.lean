/- The program logic, second part: what single operations yield (quiet ones). -/
import Derived.Test.YtcnebanpnnblbaaDoorK1
namespace Go.K
open Go Go.RowKit

def cl (cs : List Value) (e : TypeId) : Obj := .cells cs.toArray e (0, 0)

theorem cell_of_cl {w : World} {b off : Nat} {cs : List Value} {e : TypeId} (h : w.heap[b]? = some (cl cs e)) : w.cell? ⟨b, off, none⟩ = cs[off]? := by
  simp [World.cell?, h, cl]
theorem frozen_of_cl {w : World} {b off : Nat} {cs : List Value} {e : TypeId} (h : w.heap[b]? = some (cl cs e)) : w.frozen? ⟨b, off, none⟩ = false := by
  simp [World.frozen?, h, cl]

theorem cell_of_cells {w : World} {b off : Nat} {c : Array Value} {e : TypeId} {fz : Nat × Nat} (h : w.heap[b]? = some (.cells c e fz)) : w.cell? ⟨b, off, none⟩ = c[off]? := by
  simp [World.cell?, h]

/-- A cell of what is read alone. -/
def Rc (β : Nat → Option Obj) (b off : Nat) (v : Value) : Prop := ∃ c e fz, β b = some (.cells c e fz) ∧ c[off]? = some v
theorem Own.rc {E : Env} {σ : Heap} {w : World} (h : Own E σ w) {b off : Nat} {v : Value} (hc : Rc E.β b off v) : w.cell? ⟨b, off, none⟩ = some v := by
  obtain ⟨c, e, fz, h1, h2⟩ := hc
  rw [cell_of_cells (h.ro h1).1]; exact h2

/-- The function is one with a body, entered as it stands. -/
def FnOk (P : Program) (f : FuncId) : Prop := ∃ fn, P.funcs[f]? = some fn ∧ (fn.name == "runtime.NumGoroutine") = false ∧ fn.body.isNone = false

/-- A call that hands back v, and leaves all that was there as it was. -/
structure Pure (P : Program) (f : FuncId) (args : Array Value) (v : Value) : Prop where
  ok : FnOk P f
  run : ∀ w, Calls P f args w fun e w' => e = .returned v ∧ Below w.heap.size w w'

/-- Likewise, in the worlds of which ρ holds. -/
structure PureR (P : Program) (f : FuncId) (args : Array Value) (ρ : World → Prop) (v : Value) : Prop where
  ok : FnOk P f
  run : ∀ w, ρ w → Calls P f args w fun e w' => e = .returned v ∧ Below w.heap.size w w'

theorem Pure.r {P : Program} {f : FuncId} {args : Array Value} {v : Value} (h : Pure P f args v) (ρ : World → Prop) : PureR P f args ρ v := ⟨h.1, fun w _ => h.2 w⟩

@[simp] theorem eval_const (a : Act) (v : Value) : a.eval (.const v) = v := rfl

/-- What a quiet operation yields, under its guard. -/
def Qt (C : Cx) (L : Look) (σ : Heap) (g : Bool) (o : Oper) (v : Value) : Prop :=
  ∀ a w, LOk L a → Own C.E σ w → g = true →
    (execOp a.eval o).run C.P w = .ok (.value v) w ∨
    ∃ f args, (execOp a.eval o).run C.P w = .ok (.enter f args) w ∧ Calls C.P f args w fun e w' => e = .returned v ∧ Below w.heap.size w w'

section
variable {C : Cx} {L : Look} {σ : Heap} {g : Bool} {o : Oper}

theorem qt_val {v : Value} (h : ∀ a w, LOk L a → Own C.E σ w → g = true → (execOp a.eval o).run C.P w = .ok (.value v) w) : Qt C L σ g o v :=
  fun a w hL hO hg => .inl (h a w hL hO hg)

theorem qt_move {x : Operand} {gx : Bool} {v : Value} (ho : o.op = .move x) (hx : opnd L x = some (gx, v)) (hi : g = true → gx = true) : Qt C L σ g o v :=
  qt_val fun a w hL _ hg => by simp [execOp, ho, opnd_ev hL hx (hi hg)]
theorem qt_assign {x : Operand} {gx : Bool} {v : Value} (ho : o.op = .assign x) (hx : opnd L x = some (gx, v)) (hi : g = true → gx = true) : Qt C L σ g o v :=
  qt_val fun a w hL _ hg => by simp [execOp, ho, opnd_ev hL hx (hi hg)]

theorem qt_pick_true {c x y : Operand} {gc gx : Bool} {v : Value} (ho : o.op = .pick c x y) (hc : opnd L c = some (gc, .bool true)) (hx : opnd L x = some (gx, v)) (hi : g = true → (gc && gx) = true) : Qt C L σ g o v :=
  qt_val fun a w hL _ hg => by
    have h := hi hg
    rw [Bool.and_eq_true] at h
    simp [execOp, ho, opnd_ev hL hx h.2, opnd_ev hL hc h.1, asBool]
theorem qt_pick_false {c x y : Operand} {gc gy : Bool} {v : Value} (ho : o.op = .pick c x y) (hc : opnd L c = some (gc, .bool false)) (hy : opnd L y = some (gy, v)) (hi : g = true → (gc && gy) = true) : Qt C L σ g o v :=
  qt_val fun a w hL _ hg => by
    have h := hi hg
    rw [Bool.and_eq_true] at h
    simp [execOp, ho, opnd_ev hL hy h.2, opnd_ev hL hc h.1, asBool]
/-- 'c && x'. -/
theorem qt_pick_and {c x : Operand} {gc gx b z : Bool} (ho : o.op = .pick c x (.const (.bool false))) (hc : opnd L c = some (gc, .bool b)) (hx : opnd L x = some (gx, .bool z))
    (hi : g = true → gc = true) (hj : g = true → b = true → gx = true) : Qt C L σ g o (.bool (b && z)) :=
  qt_val fun a w hL _ hg => by
    cases hb : b with
    | false => simp [execOp, ho, opnd_ev hL hc (hi hg), asBool, hb]
    | true => simp [execOp, ho, opnd_ev hL hc (hi hg), opnd_ev hL hx (hj hg hb), asBool, hb]
/-- 'c || y'. -/
theorem qt_pick_or {c y : Operand} {gc gy b z : Bool} (ho : o.op = .pick c (.const (.bool true)) y) (hc : opnd L c = some (gc, .bool b)) (hy : opnd L y = some (gy, .bool z))
    (hi : g = true → gc = true) (hj : g = true → b = false → gy = true) : Qt C L σ g o (.bool (b || z)) :=
  qt_val fun a w hL _ hg => by
    cases hb : b with
    | true => simp [execOp, ho, opnd_ev hL hc (hi hg), asBool, hb]
    | false => simp [execOp, ho, opnd_ev hL hc (hi hg), opnd_ev hL hy (hj hg hb), asBool, hb]

/-! ### Numbers -/
def bval (op : BinOp) (k : IntKind) (a b : Int) : Option Value :=
  match op with
  | .add => some (.int k (k.wrap (a + b)))
  | .sub => some (.int k (k.wrap (a - b)))
  | .mul => some (.int k (k.wrap (a * b)))
  | .eql => some (.bool (decide (a = b)))
  | .neq => some (.bool (!decide (a = b)))
  | .lss => some (.bool (decide (a < b)))
  | .leq => some (.bool (decide (a ≤ b)))
  | .gtr => some (.bool (decide (b < a)))
  | .geq => some (.bool (decide (b ≤ a)))
  | .and => some (.int k (bits .and k a b))
  | .or => some (.int k (bits .or k a b))
  | .xor => some (.int k (bits .xor k a b))
  | .andNot => some (.int k (bits .andNot k a b))
  | _ => none

theorem run_bval {P : Program} {w : World} {op : BinOp} {k : IntKind} {a b : Int} {v : Value} (t : TypeId) (h : bval op k a b = some v) : (binOp op t (.int k a) (.int k b)).run P w = .ok v w := by
  cases op <;> simp only [bval, Option.some.injEq, reduceCtorEq] at h <;> subst h <;>
    simp [binOp_add, binOp_sub, binOp_mul, binOp_eql, binOp_neq, binOp_lss, binOp_leq, binOp_gtr, binOp_geq, binOp_and, binOp_or, binOp_xor, binOp_andNot, Op.intArith, intBits_and, intBits_or, intBits_xor, intBits_andNot]
  · rfl
  · rfl

theorem qt_bin {op : BinOp} {t t' : TypeId} {x y : Operand} {gx gy : Bool} {k : IntKind} {a b : Int} {v : Value} (ho : o.op = .binOp op t x y t')
    (hx : opnd L x = some (gx, .int k a)) (hy : opnd L y = some (gy, .int k b)) (hi : g = true → (gx && gy) = true) (hv : bval op k a b = some v) : Qt C L σ g o v :=
  qt_val fun ac w hL _ hg => by
    have h := hi hg
    rw [Bool.and_eq_true] at h
    simp only [execOp, ho, opnd_ev hL hx h.1, opnd_ev hL hy h.2, eqGuard_at_int]
    simp [run_bval t hv]

theorem wrap_i64 {n : Int} (h : -9223372036854775808 ≤ n ∧ n ≤ 9223372036854775807) : IntKind.i64.wrap n = n := by
  have key : ∀ A B : Int, A = 18446744073709551616 → B = 9223372036854775808 → (if (true && decide (n % A ≥ B)) = true then n % A - A else n % A) = n := by
    intro A B hA hB
    subst hA hB
    simp only [Bool.true_and, decide_eq_true_eq]
    split <;> omega
  exact key (2 ^ 64) (2 ^ (64 - 1)) (by decide) (by decide)

theorem qt_add {t t' : TypeId} {x y : Operand} {gx gy : Bool} {a b : Int} (ho : o.op = .binOp .add t x y t')
    (hx : opnd L x = some (gx, .int .i64 a)) (hy : opnd L y = some (gy, .int .i64 b)) (hi : g = true → (gx && gy) = true) (hr : g = true → -9223372036854775808 ≤ a + b ∧ a + b ≤ 9223372036854775807) : Qt C L σ g o (.int .i64 (a + b)) :=
  fun ac w hL hO hg => qt_bin (v := .int .i64 (a + b)) ho hx hy hi (by simp [bval, wrap_i64 (hr hg)]) ac w hL hO hg
theorem qt_sub {t t' : TypeId} {x y : Operand} {gx gy : Bool} {a b : Int} (ho : o.op = .binOp .sub t x y t')
    (hx : opnd L x = some (gx, .int .i64 a)) (hy : opnd L y = some (gy, .int .i64 b)) (hi : g = true → (gx && gy) = true) (hr : g = true → -9223372036854775808 ≤ a - b ∧ a - b ≤ 9223372036854775807) : Qt C L σ g o (.int .i64 (a - b)) :=
  fun ac w hL hO hg => qt_bin (v := .int .i64 (a - b)) ho hx hy hi (by simp [bval, wrap_i64 (hr hg)]) ac w hL hO hg
theorem qt_mul {t t' : TypeId} {x y : Operand} {gx gy : Bool} {a b : Int} (ho : o.op = .binOp .mul t x y t')
    (hx : opnd L x = some (gx, .int .i64 a)) (hy : opnd L y = some (gy, .int .i64 b)) (hi : g = true → (gx && gy) = true) (hr : g = true → -9223372036854775808 ≤ a * b ∧ a * b ≤ 9223372036854775807) : Qt C L σ g o (.int .i64 (a * b)) :=
  fun ac w hL hO hg => qt_bin (v := .int .i64 (a * b)) ho hx hy hi (by simp [bval, wrap_i64 (hr hg)]) ac w hL hO hg

theorem qt_quo {t t' : TypeId} {x y : Operand} {gx gy : Bool} {k : IntKind} {a b : Int} (ho : o.op = .binOp .quo t x y t')
    (hx : opnd L x = some (gx, .int k a)) (hy : opnd L y = some (gy, .int k b)) (hi : g = true → (gx && gy) = true) (hn : g = true → b ≠ 0) : Qt C L σ g o (.int k (k.wrap (a.tdiv b))) :=
  qt_val fun ac w hL _ hg => by
    have h := hi hg
    rw [Bool.and_eq_true] at h
    simp only [execOp, ho, opnd_ev hL hx h.1, opnd_ev hL hy h.2, eqGuard_at_int, binOp_quo]
    simp [Op.intDiv, hn hg]
theorem qt_rem {t t' : TypeId} {x y : Operand} {gx gy : Bool} {k : IntKind} {a b : Int} (ho : o.op = .binOp .rem t x y t')
    (hx : opnd L x = some (gx, .int k a)) (hy : opnd L y = some (gy, .int k b)) (hi : g = true → (gx && gy) = true) (hn : g = true → b ≠ 0) : Qt C L σ g o (.int k (a.tmod b)) :=
  qt_val fun ac w hL _ hg => by
    have h := hi hg
    rw [Bool.and_eq_true] at h
    simp only [execOp, ho, opnd_ev hL hx h.1, opnd_ev hL hy h.2, eqGuard_at_int, binOp_rem]
    simp [Op.intDiv, hn hg]
theorem qt_shl {t t' : TypeId} {x y : Operand} {gx gy : Bool} {k k' : IntKind} {a b : Int} (ho : o.op = .binOp .shl t x y t')
    (hx : opnd L x = some (gx, .int k a)) (hy : opnd L y = some (gy, .int k' b)) (hi : g = true → (gx && gy) = true) (hn : g = true → 0 ≤ b) : Qt C L σ g o (.int k (k.wrap (a * 2 ^ (min b.toNat k.bits)))) :=
  qt_val fun ac w hL _ hg => by
    have h := hi hg
    rw [Bool.and_eq_true] at h
    have hb := hn hg
    simp only [execOp, ho, opnd_ev hL hx h.1, opnd_ev hL hy h.2, eqGuard_at_int, binOp_shl]
    simp [Op.shift, Int.not_lt.2 hb]
theorem qt_shr {t t' : TypeId} {x y : Operand} {gx gy : Bool} {k k' : IntKind} {a b : Int} (ho : o.op = .binOp .shr t x y t')
    (hx : opnd L x = some (gx, .int k a)) (hy : opnd L y = some (gy, .int k' b)) (hi : g = true → (gx && gy) = true) (hn : g = true → 0 ≤ b) : Qt C L σ g o (.int k (a.fdiv (2 ^ (min b.toNat k.bits)))) :=
  qt_val fun ac w hL _ hg => by
    have h := hi hg
    rw [Bool.and_eq_true] at h
    have hb := hn hg
    simp only [execOp, ho, opnd_ev hL hx h.1, opnd_ev hL hy h.2, eqGuard_at_int, binOp_shr]
    simp [Op.shift, Int.not_lt.2 hb]

theorem qt_not {t : TypeId} {x : Operand} {gx b : Bool} (ho : o.op = .unOp .not t x) (hx : opnd L x = some (gx, .bool b)) (hi : g = true → gx = true) : Qt C L σ g o (.bool (!b)) :=
  qt_val fun ac w hL _ hg => by simp [execOp, ho, opnd_ev hL hx (hi hg), Op.unary]
theorem qt_neg {t : TypeId} {x : Operand} {gx : Bool} {k : IntKind} {a : Int} (ho : o.op = .unOp .neg t x) (hx : opnd L x = some (gx, .int k a)) (hi : g = true → gx = true) : Qt C L σ g o (.int k (k.wrap (-a))) :=
  qt_val fun ac w hL _ hg => by simp [execOp, ho, opnd_ev hL hx (hi hg), Op.unary, Op.intArith]

theorem qt_conv_int {s d : TypeId} {x : Operand} {gx : Bool} {k k' : IntKind} {a : Int} {ds : TypeDesc} (ho : o.op = .convert s d x) (hx : opnd L x = some (gx, .int k a)) (hi : g = true → gx = true)
    (hs : C.T.u s = some ds) (hd : C.T.u d = some (.int k')) : Qt C L σ g o (.int k' (k'.wrap a)) :=
  qt_val fun ac w hL _ hg => by
    simp [execOp, ho, opnd_ev hL hx (hi hg), convert, run_underlying (TT.u_ok hs), run_underlying (TT.u_ok hd), Conv.intToInt]

/-- '==', '!=' on bools. -/
theorem qt_eq_bool {t t' : TypeId} {x y : Operand} {gx gy a b : Bool} (ho : o.op = .binOp .eql t x y t') (hu : C.T.u t = some .bool)
    (hx : opnd L x = some (gx, .bool a)) (hy : opnd L y = some (gy, .bool b)) (hi : g = true → (gx && gy) = true) : Qt C L σ g o (.bool (a == b)) :=
  qt_val fun ac w hL _ hg => by
    have h := hi hg
    rw [Bool.and_eq_true] at h
    simp [execOp, ho, opnd_ev hL hx h.1, opnd_ev hL hy h.2, eqGuard_at_bool, binOp, run_equal_bool w t a b (TT.u_ok hu)]
theorem qt_ne_bool {t t' : TypeId} {x y : Operand} {gx gy a b : Bool} (ho : o.op = .binOp .neq t x y t') (hu : C.T.u t = some .bool)
    (hx : opnd L x = some (gx, .bool a)) (hy : opnd L y = some (gy, .bool b)) (hi : g = true → (gx && gy) = true) : Qt C L σ g o (.bool (a != b)) :=
  qt_val fun ac w hL _ hg => by
    have h := hi hg
    rw [Bool.and_eq_true] at h
    simp [execOp, ho, opnd_ev hL hx h.1, opnd_ev hL hy h.2, eqGuard_at_bool, binOp, run_equal_bool w t a b (TT.u_ok hu), bne]

/-! ### Tuples, structs, addresses -/
theorem qt_extract {x : Operand} {gx : Bool} {i : Nat} {vs : List Value} {v : Value} (ho : o.op = .extract x i) (hx : opnd L x = some (gx, .tuple vs.toArray)) (hi : g = true → gx = true) (hv : vs[i]? = some v) : Qt C L σ g o v :=
  qt_val fun ac w hL _ hg => by simp [execOp, ho, opnd_ev hL hx (hi hg), Instr.extract, hv]

def aggD : TypeDesc → Bool
  | .struct _ | .array _ _ => true
  | _ => false
theorem run_isAgg {P : Program} {T : TT P} {t : TypeId} {d : TypeDesc} {b : Bool} (h : T.u t = some d) (hb : aggD d = b) (w : World) : (isAgg t).run P w = .ok b w := by
  unfold isAgg
  simp only [Sem.run_bind, run_underlying (TT.u_ok h), Result.andThen_ok]
  cases d <;> simp [aggD] at hb <;> subst hb <;> rfl
theorem run_sizeOf {P : Program} {T : TT P} {t : TypeId} {z : Value} {n b : Nat} (h : T.i t = some (z, n, b)) (w : World) : (sizeOf t).run P w = .ok n w := by
  obtain ⟨i, h1, _, h3, _⟩ := TT.i_ok h
  simp [sizeOf, typeInfo, h1, h3]
theorem run_zero {P : Program} {T : TT P} {t : TypeId} {z : Value} {n b : Nat} (h : T.i t = some (z, n, b)) (w : World) : (zeroValue t).run P w = .ok z w := by
  obtain ⟨i, h1, h2, _, _⟩ := TT.i_ok h
  simp [zeroValue, typeInfo, h1, h2]

/-- The cells from off on, n of them. -/
def takeN : Nat → List Value → Option (List Value)
  | 0, _ => some []
  | n + 1, v :: r => match takeN n r with
    | some vs => some (v :: vs)
    | none => none
  | _ + 1, [] => none
def dropN : Nat → List Value → Option (List Value)
  | 0, l => some l
  | n + 1, _ :: r => dropN n r
  | _ + 1, [] => none
def cutN (off n : Nat) (cs : List Value) : Option (List Value) := match dropN off cs with
  | some r => takeN n r
  | none => none
theorem takeN_ok : ∀ {n : Nat} {cs vs : List Value}, takeN n cs = some vs → vs = cs.take n ∧ vs.length = n
  | 0, cs, vs, h => by simp only [takeN, Option.some.injEq] at h; subst h; simp
  | n + 1, [], vs, h => by cases h
  | n + 1, v :: r, vs, h => by
    unfold takeN at h
    cases h1 : takeN n r with
    | none => rw [h1] at h; cases h
    | some us => rw [h1] at h; simp only [Option.some.injEq] at h; subst h; have := takeN_ok h1; exact ⟨by rw [List.take_succ_cons, ← this.1], by rw [List.length_cons, this.2]⟩
theorem dropN_ok : ∀ {n : Nat} {cs r : List Value}, dropN n cs = some r → r = cs.drop n
  | 0, cs, r, h => by simp only [dropN, Option.some.injEq] at h; subst h; simp
  | n + 1, [], r, h => by cases h
  | n + 1, v :: l, r, h => by unfold dropN at h; simpa using dropN_ok h
theorem cutN_ok {off n : Nat} {cs vs : List Value} (h : cutN off n cs = some vs) : vs.length = n ∧ ∀ j v, vs[j]? = some v → cs[off + j]? = some v := by
  unfold cutN at h
  cases h1 : dropN off cs with
  | none => rw [h1] at h; cases h
  | some r =>
    rw [h1] at h
    obtain ⟨e1, e2⟩ := takeN_ok h
    refine ⟨e2, fun j v hj => ?_⟩
    have hlt : j < n := by rw [← e2]; exact (List.getElem?_eq_some_iff.1 hj).1
    rw [e1, dropN_ok h1, List.getElem?_take_of_lt hlt, List.getElem?_drop] at hj
    exact hj

theorem qt_fieldAddr {s : TypeId} {x : Operand} {gx : Bool} {b off i : Nat} {fs : Array Field} {fd : Field} {z : Value} {n m : Nat} (ho : o.op = .fieldAddr s x i) (hx : opnd L x = some (gx, .pointer (some ⟨b, off, none⟩))) (hi : g = true → gx = true)
    (hu : C.T.u s = some (.struct fs)) (hf : fs[i]? = some fd) (hz : C.T.i fd.type = some (z, n + 1, m)) : Qt C L σ g o (.pointer (some ⟨b, off + fd.offset, none⟩)) :=
  qt_val fun ac w hL _ hg => by
    simp [execOp, ho, opnd_ev hL hx (hi hg), Instr.fieldAt, run_underlying (TT.u_ok hu), hf, Instr.sureAddr, fieldPlace, run_sizeOf hz, Addr.add_lit]

theorem run_part {P : Program} {T : TT P} {t : TypeId} {d : TypeDesc} {z : Value} {n m off : Nat} {cs vs : List Value} {v : Value} (hu : T.u t = some d) (hz : T.i t = some (z, n, m))
    (h : (aggD d = true ∧ cutN off n cs = some vs ∧ v = .agg vs.toArray) ∨ (aggD d = false ∧ cs[off]? = some v)) (w : World) : (part t cs.toArray off).run P w = .ok v w := by
  unfold part
  rcases h with ⟨h1, h2, h3⟩ | ⟨h1, h2⟩
  · simp only [Sem.run_bind, run_isAgg hu h1, Result.andThen_ok, if_true, run_sizeOf hz, Sem.run_pure]
    obtain ⟨e1, e2⟩ := cutN_ok h2
    subst h3
    congr 2
    apply Array.ext_getElem?
    intro j
    by_cases hj : j < n
    · have h3 : j < vs.length := by omega
      have h4 := e2 j _ (List.getElem?_eq_getElem h3)
      simp only [Array.getElem?_extract, List.size_toArray, List.getElem?_toArray]
      rw [if_pos]
      · rw [h4, List.getElem?_eq_getElem h3]
      · have := (List.getElem?_eq_some_iff.1 h4).1; omega
    · rw [Array.getElem?_eq_none, Array.getElem?_eq_none]
      · simp; omega
      · simp; omega
  · simp [run_isAgg hu h1, h2]

theorem qt_field {t : TypeId} {x : Operand} {gx : Bool} {i : Nat} {cs : List Value} {fs : Array Field} {fd : Field} {d : TypeDesc} {z : Value} {n m : Nat} {v : Value} (ho : o.op = .field t x i) (hx : opnd L x = some (gx, .agg cs.toArray)) (hi : g = true → gx = true)
    (hu : C.T.u t = some (.struct fs)) (hf : fs[i]? = some fd) (hd : C.T.u fd.type = some d) (hz : C.T.i fd.type = some (z, n, m)) (ha : aggD d = false) (hv : cs[fd.offset]? = some v) : Qt C L σ g o v :=
  qt_val fun ac w hL _ hg => by
    have hp := fun w => run_part (P := C.P) (cs := cs) (off := fd.offset) (vs := []) (v := v) hd hz (.inr ⟨ha, hv⟩) w
    simp [execOp, ho, opnd_ev hL hx (hi hg), Instr.field, run_underlying (TT.u_ok hu), hf, asAgg, hp]
theorem qt_fieldN {t : TypeId} {x : Operand} {gx : Bool} {i : Nat} {cs vs : List Value} {fs : Array Field} {fd : Field} {d : TypeDesc} {z : Value} {n m : Nat} (ho : o.op = .field t x i) (hx : opnd L x = some (gx, .agg cs.toArray)) (hi : g = true → gx = true)
    (hu : C.T.u t = some (.struct fs)) (hf : fs[i]? = some fd) (hd : C.T.u fd.type = some d) (hz : C.T.i fd.type = some (z, n, m)) (ha : aggD d = true) (hv : cutN fd.offset n cs = some vs) : Qt C L σ g o (.agg vs.toArray) :=
  qt_val fun ac w hL _ hg => by
    simp [execOp, ho, opnd_ev hL hx (hi hg), Instr.field, run_underlying (TT.u_ok hu), hf, asAgg, run_part hd hz (.inl ⟨ha, hv, rfl⟩)]

/-! ### Loads -/
theorem run_load1 {P : Program} {T : TT P} {t : TypeId} {d : TypeDesc} {w : World} {b off : Nat} {v : Value} (hu : T.u t = some d) (ha : aggD d = false) (hc : w.cell? ⟨b, off, none⟩ = some v) :
    (Instr.loadAt t (.pointer (some ⟨b, off, none⟩))).run P w = .ok v w := by
  simp [Instr.loadAt, Instr.sureAddr, loadVar, run_isAgg hu ha, hc]
theorem run_loadN {P : Program} {T : TT P} {t : TypeId} {d : TypeDesc} {z : Value} {n m : Nat} {w : World} {b off : Nat} {vs : List Value} (hu : T.u t = some d) (ha : aggD d = true) (hz : T.i t = some (z, n, m)) (hl : vs.length = n)
    (hc : ∀ j v, vs[j]? = some v → w.cell? ⟨b, off + j, none⟩ = some v) : (Instr.loadAt t (.pointer (some ⟨b, off, none⟩))).run P w = .ok (.agg vs.toArray) w := by
  have := run_loadCells_list (P := P) w ⟨b, off, none⟩ vs (fun j v hj => by rw [Addr.add_lit]; exact hc j v hj)
  rw [hl] at this
  simp [Instr.loadAt, Instr.sureAddr, loadVar, run_isAgg hu ha, run_sizeOf hz, this]

theorem qt_load1 {t : TypeId} {x : Operand} {gx : Bool} {b off : Nat} {cs : List Value} {e : TypeId} {d : TypeDesc} {v : Value} (ho : o.op = .load t x) (hx : opnd L x = some (gx, .pointer (some ⟨b, off, none⟩))) (hi : g = true → gx = true)
    (hu : C.T.u t = some d) (ha : aggD d = false) (hm : (b, cl cs e) ∈ σ) (hc : cs[off]? = some v) : Qt C L σ g o v :=
  qt_val fun ac w hL hO hg => by
    have h1 : w.cell? ⟨b, off, none⟩ = some v := by rw [cell_of_cl (hO.has.has _ hm)]; exact hc
    simp [execOp, ho, opnd_ev hL hx (hi hg), run_load1 hu ha h1]
theorem qt_loadN {t : TypeId} {x : Operand} {gx : Bool} {b off : Nat} {cs vs : List Value} {e : TypeId} {d : TypeDesc} {z : Value} {n m : Nat} (ho : o.op = .load t x) (hx : opnd L x = some (gx, .pointer (some ⟨b, off, none⟩))) (hi : g = true → gx = true)
    (hu : C.T.u t = some d) (ha : aggD d = true) (hz : C.T.i t = some (z, n, m)) (hm : (b, cl cs e) ∈ σ) (hc : cutN off n cs = some vs) : Qt C L σ g o (.agg vs.toArray) :=
  qt_val fun ac w hL hO hg => by
    obtain ⟨h1, h2⟩ := cutN_ok hc
    have h3 : ∀ j v, vs[j]? = some v → w.cell? ⟨b, off + j, none⟩ = some v := fun j v hj => by rw [cell_of_cl (hO.has.has _ hm)]; exact h2 j v hj
    simp [execOp, ho, opnd_ev hL hx (hi hg), run_loadN hu ha hz h1 h3]
theorem qt_loadN' {t : TypeId} {x : Operand} {gx : Bool} {b off : Nat} {cs vs : List Value} {e : TypeId} {d : TypeDesc} {z : Value} {n m : Nat} (ho : o.op = .load t x) (hx : opnd L x = some (gx, .pointer (some ⟨b, off, none⟩))) (hi : g = true → gx = true)
    (hu : C.T.u t = some d) (ha : aggD d = true) (hz : C.T.i t = some (z, n, m)) (hm : (b, cl cs e) ∈ σ) (hl : vs.length = n) (hc : ∀ j v, vs[j]? = some v → cs[off + j]? = some v) : Qt C L σ g o (.agg vs.toArray) :=
  qt_val fun ac w hL hO hg => by
    have h3 : ∀ j v, vs[j]? = some v → w.cell? ⟨b, off + j, none⟩ = some v := fun j v hj => by rw [cell_of_cl (hO.has.has _ hm)]; exact hc j v hj
    simp [execOp, ho, opnd_ev hL hx (hi hg), run_loadN hu ha hz hl h3]
theorem qt_load1_ro {t : TypeId} {x : Operand} {gx : Bool} {b off : Nat} {d : TypeDesc} {v : Value} (ho : o.op = .load t x) (hx : opnd L x = some (gx, .pointer (some ⟨b, off, none⟩))) (hi : g = true → gx = true)
    (hu : C.T.u t = some d) (ha : aggD d = false) (hc : Rc C.E.β b off v) : Qt C L σ g o v :=
  qt_val fun ac w hL hO hg => by simp [execOp, ho, opnd_ev hL hx (hi hg), run_load1 hu ha (hO.rc hc)]
theorem qt_loadN_ro {t : TypeId} {x : Operand} {gx : Bool} {b off : Nat} {vs : List Value} {d : TypeDesc} {z : Value} {n m : Nat} (ho : o.op = .load t x) (hx : opnd L x = some (gx, .pointer (some ⟨b, off, none⟩))) (hi : g = true → gx = true)
    (hu : C.T.u t = some d) (ha : aggD d = true) (hz : C.T.i t = some (z, n, m)) (hl : vs.length = n) (hc : ∀ j v, vs[j]? = some v → Rc C.E.β b (off + j) v) : Qt C L σ g o (.agg vs.toArray) :=
  qt_val fun ac w hL hO hg => by simp [execOp, ho, opnd_ev hL hx (hi hg), run_loadN hu ha hz hl (fun j v hj => hO.rc (hc j v hj))]

/-! ### Functions as values; interfaces -/
theorem qt_makeFunc {fn : Fn} {xs ys : Array Operand} {gs hs : List Bool} {us vs : List Value} (ho : o.op = .makeFunc fn xs ys) (hx : opnds L xs.toList = some (gs, us)) (hy : opnds L ys.toList = some (hs, vs))
    (hi : g = true → gs.all id = true) (hj : g = true → hs.all id = true) : Qt C L σ g o (.func fn us.toArray vs.toArray) :=
  qt_val fun ac w hL _ hg => by
    have e1 : xs.map ac.eval = us.toArray := by apply Array.ext'; rw [← opnds_ok hL hx (hi hg)]; simp
    have e2 : ys.map ac.eval = vs.toArray := by apply Array.ext'; rw [← opnds_ok hL hy (hj hg)]; simp
    simp [execOp, ho, e1, e2, Instr.makeFunc]
theorem qt_makeInterface {t : TypeId} {x : Operand} {gx : Bool} {d : TypeDesc} {v : Value} (ho : o.op = .makeInterface t x) (hx : opnd L x = some (gx, v)) (hi : g = true → gx = true) (hu : C.T.u t = some d) (hd : (match d with | .interface _ => true | _ => false) = false) :
    Qt C L σ g o (.iface t v) :=
  qt_val fun ac w hL _ hg => by
    simp only [execOp, ho, opnd_ev hL hx (hi hg), Instr.makeInterface]
    cases d <;> simp [run_underlying (TT.u_ok hu)] at hd ⊢
theorem qt_nilCheck_ptr {x : Operand} {gx : Bool} {p : Addr} (ho : o.op = .nilCheck x) (hx : opnd L x = some (gx, .pointer (some p))) (hi : g = true → gx = true) : Qt C L σ g o (.pointer (some p)) :=
  qt_val fun ac w hL _ hg => by simp [execOp, ho, opnd_ev hL hx (hi hg)]

/-! ### Calls that leave all as it was -/
theorem run_enter {P : Program} {w : World} {f : FuncId} {args : Array Value} (h : FnOk P f) : (callFunc f args).run P w = .ok (.enter f args) w := by
  obtain ⟨fn, h1, h2, h3⟩ := h
  have h2' : ¬ fn.name = "runtime.NumGoroutine" := by simpa using h2
  have h3' : fn.body ≠ none := by intro e; simp [e] at h3
  simp [callFunc, h1, h2', h3']

theorem run_call {P : Program} {w : World} {ac : Act} {x : Operand} {f : FuncId} {first cap : Array Value} {args : Array Operand} {ts : Array TypeId} {vs : List Value} {o : Oper} (h : FnOk P f)
    (ho : o.op = .call ⟨.value x, args, ts⟩) (hx : ac.eval x = .func (.func f) first cap) (ha : args.toList.map ac.eval = vs) : (execOp ac.eval o).run P w = .ok (.enter f ((first ++ vs.toArray) ++ cap)) w := by
  have e1 : args.map ac.eval = vs.toArray := by apply Array.ext'; rw [← ha]; simp
  simp only [execOp, ho, resolve, e1, hx, Deferred.ofValue, Sem.run_bind, Sem.run_pure, Result.andThen_ok, invoke]
  exact run_enter h

theorem qt_callR {x : Operand} {f : FuncId} {gx : Bool} {first cap : Array Value} {args : Array Operand} {ts : Array TypeId} {gs : List Bool} {vs : List Value} {v : Value} {ρ : World → Prop} (ho : o.op = .call ⟨.value x, args, ts⟩) (hx : opnd L x = some (gx, .func (.func f) first cap))
    (ha : opnds L args.toList = some (gs, vs)) (hi : g = true → (gx && gs.all id) = true) (hc : g = true → PureR C.P f ((first ++ vs.toArray) ++ cap) ρ v) (hρ : ∀ w, Own C.E σ w → ρ w) : Qt C L σ g o v :=
  fun ac w hL hO hg => by
    have h := hi hg
    rw [Bool.and_eq_true] at h
    obtain ⟨h1, h2⟩ := hc hg
    exact .inr ⟨f, _, run_call h1 ho (opnd_ev hL hx h.1) (opnds_ok hL ha h.2), h2 w (hρ w hO)⟩
theorem qt_call {f : FuncId} {args : Array Operand} {ts : Array TypeId} {gs : List Bool} {vs : List Value} {v : Value} (ho : o.op = .call ⟨.value (.func f), args, ts⟩)
    (ha : opnds L args.toList = some (gs, vs)) (hi : g = true → gs.all id = true) (hc : g = true → Pure C.P f vs.toArray v) : Qt C L σ g o v :=
  qt_callR (x := .func f) (first := #[]) (cap := #[]) (ρ := fun _ => True) ho rfl ha (fun hg => by simpa using hi hg) (fun hg => by simpa using (hc hg).r _) (fun _ _ => trivial)

/-! ### Builtins on numbers and lengths -/
theorem qt_max {x y : Operand} {ts : Array TypeId} {gx gy : Bool} {k k' : IntKind} {a b : Int} (ho : o.op = .call ⟨.builtin .max, #[x, y], ts⟩) (hx : opnd L x = some (gx, .int k a)) (hy : opnd L y = some (gy, .int k' b)) (hi : g = true → (gx && gy) = true) : Qt C L σ g o (.int k (max a b)) :=
  qt_val fun ac w hL _ hg => by
    have h := hi hg
    rw [Bool.and_eq_true] at h
    have : max a b = if a < b then b else a := by rw [Int.max_def]; split <;> split <;> omega
    simp [execOp, ho, resolve, invoke, builtin, opnd_ev hL hx h.1, opnd_ev hL hy h.2, Builtin.max_, Builtin.max2, this]
theorem qt_min {x y : Operand} {ts : Array TypeId} {gx gy : Bool} {k k' : IntKind} {a b : Int} (ho : o.op = .call ⟨.builtin .min, #[x, y], ts⟩) (hx : opnd L x = some (gx, .int k a)) (hy : opnd L y = some (gy, .int k' b)) (hi : g = true → (gx && gy) = true) : Qt C L σ g o (.int k (min a b)) :=
  qt_val fun ac w hL _ hg => by
    have h := hi hg
    rw [Bool.and_eq_true] at h
    have : min a b = if b < a then b else a := by rw [Int.min_def]; split <;> split <;> omega
    simp [execOp, ho, resolve, invoke, builtin, opnd_ev hL hx h.1, opnd_ev hL hy h.2, Builtin.min_, Builtin.min2, this]
theorem qt_len_slice {x : Operand} {t : TypeId} {gx : Bool} {p : Option Addr} {n c : Nat} {e : TypeId} (ho : o.op = .call ⟨.builtin .len, #[x], #[t]⟩) (hx : opnd L x = some (gx, .slice p n c)) (hi : g = true → gx = true) (hu : C.T.u t = some (.slice e)) : Qt C L σ g o (.int .i64 n) :=
  qt_val fun ac w hL _ hg => by
    simp [execOp, ho, resolve, invoke, builtin, opnd_ev hL hx (hi hg), Builtin.len_, run_underlying (TT.u_ok hu), goInt]
theorem qt_len_string {x : Operand} {t : TypeId} {gx : Bool} {s : ByteArray} (ho : o.op = .call ⟨.builtin .len, #[x], #[t]⟩) (hx : opnd L x = some (gx, .string s)) (hi : g = true → gx = true) (hu : C.T.u t = some .string) : Qt C L σ g o (.int .i64 s.size) :=
  qt_val fun ac w hL _ hg => by
    simp [execOp, ho, resolve, invoke, builtin, opnd_ev hL hx (hi hg), Builtin.len_, run_underlying (TT.u_ok hu), goInt]
end
end Go.K
