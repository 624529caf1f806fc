/- The program logic: rules in the form in which the driver asks them (what is decided is asked of the term as it stands, never reckoned). -/
import Derived.Test.YtcnebanpnnblbaaDoorK6
namespace Go.K
open Go Go.RowKit

theorem alln : ([] : List Bool).all id = true := rfl
theorem allc {g : Bool} {l : List Bool} (h : g = true) (r : l.all id = true) : (g :: l).all id = true := by rw [List.all_cons, h, r]; rfl
theorem andi {a b : Bool} (h : a = true) (r : b = true) : (a && b) = true := by rw [h, r]; rfl
theorem andl {a b : Bool} (h : (a && b) = true) : a = true := by rw [Bool.and_eq_true] at h; exact h.1
theorem andr {a b : Bool} (h : (a && b) = true) : b = true := by rw [Bool.and_eq_true] at h; exact h.2

section
variable {C : Cx} {ops : List Oper} {Q : KQ} {o : Oper} {rest : List Oper} {fr : Fr} {σ : Heap} {d m : Nat} {g b : Bool} {L : Look} {v : Value}
theorem KO.skip' (hg : guardOf ops (look fr) o = some g) (hf : g = false) (hd : o.dst = some d) (hn : Nat.blt d C.N = true) (h : KO C ops Q rest ((d, false, undef) :: fr) σ) : KO C ops Q (o :: rest) fr σ := by
  subst hf; exact KO.skip hg hd hn h
theorem KO.skip0' (hg : guardOf ops (look fr) o = some g) (hf : g = false) (hd : o.dst = none) (h : KO C ops Q rest fr σ) : KO C ops Q (o :: rest) fr σ := by
  subst hf; exact KO.skip0 hg hd h
theorem KD.skip' (hg : guardOf ops (LR (namesOf ops o) (look fr)) o = some g) (hf : g = false) (hd : o.dst = some d) (hn : Nat.blt d C.N = true) (h : KD C ops Q σ m rest ((d, false, undef) :: fr)) : KD C ops Q σ (m + 1) (o :: rest) fr := by
  subst hf; exact KD.skip hg hd hn h
theorem KW.cond_t {c : Operand} {x y : Code} (hc : opnd (look fr) c = some (true, .bool b)) (hb : b = true) (h : KW C Q x fr σ) : KW C Q (.cond c x y) fr σ := by
  subst hb; exact KW.cond_true hc h
theorem KW.cond_f {c : Operand} {x y : Code} (hc : opnd (look fr) c = some (true, .bool b)) (hb : b = false) (h : KW C Q y fr σ) : KW C Q (.cond c x y) fr σ := by
  subst hb; exact KW.cond_false hc h
theorem qt_pick_t {c x y : Operand} {gc gx : Bool} (ho : o.op = .pick c x y) (hc : opnd L c = some (gc, .bool b)) (hb : b = true) (hx : opnd L x = some (gx, v)) (hi : g = true → (gc && gx) = true) : Qt C L σ g o v := by
  subst hb; exact qt_pick_true ho hc hx hi
theorem qt_pick_f {c x y : Operand} {gc gy : Bool} (ho : o.op = .pick c x y) (hc : opnd L c = some (gc, .bool b)) (hb : b = false) (hy : opnd L y = some (gy, v)) (hi : g = true → (gc && gy) = true) : Qt C L σ g o v := by
  subst hb; exact qt_pick_false ho hc hy hi

theorem wrap_u64I {n : Int} (h : 0 ≤ n ∧ n < 18446744073709551616) : IntKind.u64.wrap n = n := by
  have key : ∀ A : Int, A = 18446744073709551616 → n % A = n := by intro A hA; subst hA; omega
  simp only [IntKind.wrap, IntKind.bits, IntKind.signed, Bool.false_and]
  exact key (2 ^ 64) (by decide)
theorem qt_convI {s d : TypeId} {x : Operand} {gx : Bool} {k : IntKind} {a : Int} {ds : TypeDesc} (ho : o.op = .convert s d x) (hx : opnd L x = some (gx, .int k a)) (hs : C.T.u s = some ds) (hd : C.T.u d = some (.int .i64)) (hi : g = true → gx = true) (hr : g = true → -9223372036854775808 ≤ a ∧ a ≤ 9223372036854775807) : Qt C L σ g o (.int .i64 a) := fun ac w hL hO hg => by
  have := qt_conv_int ho hx hi hs hd ac w hL hO hg
  rwa [wrap_i64 (hr hg)] at this
theorem qt_convU {s d : TypeId} {x : Operand} {gx : Bool} {k : IntKind} {a : Int} {ds : TypeDesc} (ho : o.op = .convert s d x) (hx : opnd L x = some (gx, .int k a)) (hs : C.T.u s = some ds) (hd : C.T.u d = some (.int .u64)) (hi : g = true → gx = true) (hr : g = true → 0 ≤ a ∧ a < 18446744073709551616) : Qt C L σ g o (.int .u64 a) := fun ac w hL hO hg => by
  have := qt_conv_int ho hx hi hs hd ac w hL hO hg
  rwa [wrap_u64I (hr hg)] at this

theorem qt_addU {t t' : TypeId} {x y : Operand} {gx gy : Bool} {a b : Int} (ho : o.op = .binOp .add t x y t')
    (hx : opnd L x = some (gx, .int .u64 a)) (hy : opnd L y = some (gy, .int .u64 b)) (hi : g = true → (gx && gy) = true) (hr : g = true → 0 ≤ a + b ∧ a + b < 18446744073709551616) : Qt C L σ g o (.int .u64 (a + b)) :=
  fun ac w hL hO hg => qt_bin (v := .int .u64 (a + b)) ho hx hy hi (by simp [bval, wrap_u64I (hr hg)]) ac w hL hO hg
theorem qt_subU {t t' : TypeId} {x y : Operand} {gx gy : Bool} {a b : Int} (ho : o.op = .binOp .sub t x y t')
    (hx : opnd L x = some (gx, .int .u64 a)) (hy : opnd L y = some (gy, .int .u64 b)) (hi : g = true → (gx && gy) = true) (hr : g = true → 0 ≤ a - b ∧ a - b < 18446744073709551616) : Qt C L σ g o (.int .u64 (a - b)) :=
  fun ac w hL hO hg => qt_bin (v := .int .u64 (a - b)) ho hx hy hi (by simp [bval, wrap_u64I (hr hg)]) ac w hL hO hg
theorem qt_mulU {t t' : TypeId} {x y : Operand} {gx gy : Bool} {a b : Int} (ho : o.op = .binOp .mul t x y t')
    (hx : opnd L x = some (gx, .int .u64 a)) (hy : opnd L y = some (gy, .int .u64 b)) (hi : g = true → (gx && gy) = true) (hr : g = true → 0 ≤ a * b ∧ a * b < 18446744073709551616) : Qt C L σ g o (.int .u64 (a * b)) :=
  fun ac w hL hO hg => qt_bin (v := .int .u64 (a * b)) ho hx hy hi (by simp [bval, wrap_u64I (hr hg)]) ac w hL hO hg

theorem qt_quoU {t t' : TypeId} {x y : Operand} {gx gy : Bool} {a b : Int} (ho : o.op = .binOp .quo t x y t')
    (hx : opnd L x = some (gx, .int .u64 a)) (hy : opnd L y = some (gy, .int .u64 b)) (hi : g = true → (gx && gy) = true) (hn : g = true → 0 ≤ a ∧ a < 18446744073709551616 ∧ 0 < b) : Qt C L σ g o (.int .u64 (a / b)) :=
  fun ac w hL hO hg => by
    have := qt_quo (C := C) (σ := σ) ho hx hy hi (fun hg => by have := hn hg; omega) ac w hL hO hg
    have h := hn hg
    rw [Int.tdiv_eq_ediv_of_nonneg h.1, wrap_u64I ⟨Int.ediv_nonneg h.1 (by omega), Int.lt_of_le_of_lt (Int.ediv_le_self _ h.1) h.2.1⟩] at this
    exact this

/-- Behind a statement all its ways meet again. -/
def cutQ (C : Cx) (fr' : Fr) (σ' : Heap) (Q : KQ) : KQ
  | .normal, f, s => Le C f s fr' σ'
  | e, f, s => Q e f s
theorem KW.cut {x y : Code} (fr' : Fr) (σ' : Heap) (h1 : KW C Q y fr' σ') (h2 : KW C (cutQ C fr' σ' Q) x fr σ) : KW C (thenQ C (KW C Q y) Q) x fr σ := fun a w hS =>
  wpIn_mono (h2 a w hS) fun e a' w' hq => by
    cases e with
    | normal => obtain ⟨f, s, hS', hle⟩ := hq; exact ⟨f, s, hS', fun a w h => h1 a w (hle a w h)⟩
    | panic => exact hq
    | outgrown => exact hq
    | exit => exact hq
    | goto => exact hq
    | ret => exact hq
theorem KW.cutS {x y : Code} (h1 : KW C Q y fr σ) (h2 : KW C (cutQ C fr σ Q) x fr σ) : KW C (thenQ C (KW C Q y) Q) x fr σ := KW.cut fr σ h1 h2
theorem At.cut_here {fr' : Fr} {σ' : Heap} (h : Le C fr σ fr' σ') : At (cutQ C fr' σ' Q) .normal fr σ := h
theorem At.cut_same {fr' : Fr} (h : FLe fr fr') : At (cutQ C fr' σ Q) .normal fr σ := Le.same h
theorem At.cut_ret {fr' : Fr} {σ' : Heap} (h : At Q .ret fr σ) : At (cutQ C fr' σ' Q) .ret fr σ := h
theorem At.cut_exit {fr' : Fr} {σ' : Heap} {id : Nat} (h : At Q (.exit id) fr σ) : At (cutQ C fr' σ' Q) (.exit id) fr σ := h

theorem Stp.quiet {w w' : World} (h : Stp σ σ w w') (hh : Has σ w) : Below w.heap.size w w' :=
  ⟨h.os, h.tape, h.output, h.size, fun b hb => by
    by_cases hk : b ∈ keys σ
    · obtain ⟨p, hp, rfl⟩ := List.mem_map.1 hk
      rw [h.has.has p hp, hh.has p hp]
    · exact h.old b hb hk⟩
/-- A call that reads what is tracked. -/
theorem qt_callQ {f : FuncId} {args : Array Operand} {ts : Array TypeId} {gs : List Bool} {vs : List Value} (ho : o.op = .call ⟨.value (.func f), args, ts⟩)
    (ha : opnds L args.toList = some (gs, vs)) (hi : g = true → gs.all id = true) (hc : g = true → Tr C.P f vs C.E.β σ (fun u s => u = v ∧ s = σ)) : Qt C L σ g o v := fun a w hL hO hg => by
  have hT := hc hg
  refine .inr ⟨f, _, run_call hT.1 ho rfl (opnds_ok hL ha (hi hg)), ?_⟩
  have e : (#[] ++ vs.toArray) ++ #[] = vs.toArray := by simp
  rw [e]
  exact (hT.2 w (fun b o hb => hO.ro hb) hO.has).mono fun e w' ⟨u, s, h1, ⟨h2, h3⟩, h4⟩ => by
    subst h2 h3
    exact ⟨h1, h4.quiet hO.has⟩
end
end Go.K
