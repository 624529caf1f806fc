/- Texts compared. -/
import Derived.Test.YtnaclkdjchnbpaaDoorK28
namespace Go.K
open Go Go.RowKit
section
variable {C : Cx} {L : Look} {σ : Heap} {g : Bool} {o : Oper}
theorem ba_beq (a b : ByteArray) : (a == b) = decide (a = b) := by
  cases a with | mk x => cases b with | mk y =>
  show (x == y) = _
  by_cases h : x = y
  · subst h; simp
  · rw [decide_eq_false (by simpa using h)]; simpa using h
theorem toList_eq (a b : ByteArray) : (a.toList == b.toList) = decide (a = b) := by
  rw [← beq_toListBytes, ba_beq]
theorem qt_streq {t t' : TypeId} {x y : Operand} {gx gy : Bool} {a b : ByteArray} (ho : o.op = .binOp .eql t x y t') (hx : opnd L x = some (gx, .string a)) (hy : opnd L y = some (gy, .string b)) (hi : g = true → (gx && gy) = true) : Qt C L σ g o (.bool (decide (a = b))) :=
  qt_val fun ac w hL _ hg => by
    have h := hi hg
    rw [Bool.and_eq_true] at h
    have e : (Op.stringOp .eql a b).run C.P w = .ok (.bool (decide (a = b))) w := by
      unfold Op.stringOp
      dsimp only
      rw [toList_eq]; rfl
    have e1 : (eqGuard .eql t x y (.string a) (.string b)).run C.P w = .ok () w := rfl
    have e2 : binOp .eql t (.string a) (.string b) = Op.stringOp .eql a b := rfl
    simp only [execOp, ho, opnd_ev hL hx h.1, opnd_ev hL hy h.2, Sem.run_bind, e1, Result.andThen_ok, e2, e, Sem.run_pure]
theorem qt_strne {t t' : TypeId} {x y : Operand} {gx gy : Bool} {a b : ByteArray} (ho : o.op = .binOp .neq t x y t') (hx : opnd L x = some (gx, .string a)) (hy : opnd L y = some (gy, .string b)) (hi : g = true → (gx && gy) = true) : Qt C L σ g o (.bool (!decide (a = b))) :=
  qt_val fun ac w hL _ hg => by
    have h := hi hg
    rw [Bool.and_eq_true] at h
    have e : (Op.stringOp .neq a b).run C.P w = .ok (.bool (!decide (a = b))) w := by
      unfold Op.stringOp
      dsimp only
      rw [toList_eq]; rfl
    have e1 : (eqGuard .neq t x y (.string a) (.string b)).run C.P w = .ok () w := rfl
    have e2 : binOp .neq t (.string a) (.string b) = Op.stringOp .neq a b := rfl
    simp only [execOp, ho, opnd_ev hL hx h.1, opnd_ev hL hy h.2, Sem.run_bind, e1, Result.andThen_ok, e2, e, Sem.run_pure]
end
end Go.K
