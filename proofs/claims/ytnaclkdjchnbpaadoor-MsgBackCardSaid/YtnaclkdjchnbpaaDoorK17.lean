/- The program logic, seventeenth part: functions that hold a label (no goto runs). -/
import Derived.Test.YtnaclkdjchnbpaaDoorK16
import Derived.Scope
namespace Go
section
variable {P : Program} {b : Frame} {a : Act} {k : List Item} {cs : List Frame} {w : World}
theorem stepR_scope {c : Code} : step P (lone (b.atR a (.code (.scope c) :: k)) cs w) = .next (lone (b.atR a (.code c :: .inScope c :: k)) cs w) :=
  step_lone_go (by simp [stepG, stepG.exec, Frame.atR])
theorem stepR_inScope {c : Code} : step P (lone (b.atR a (.inScope c :: k)) cs w) = .next (lone (b.atR a k) cs w) :=
  step_lone_go (by simp [stepG, stepG.exec, Frame.atR])
theorem wpIn_scope {F : Fence} {n : Nat} {Q : Exit → Act → World → Prop} {c : Code} (h : c.wpIn F n P (Exit.noGoto Q) a w) : (Code.scope c).wpIn F n P Q a w := by
  intro b k cs hro hb hr
  have h0 : (lone (b.atR a (.code (.scope c) :: k)) cs w).fenced P F := fenced_calm hb hr rfl
  obtain ⟨e, a₁, w₁, hq, harr⟩ := h b (.inScope c :: k) cs hro hb hr
  cases e with
  | normal => exact ⟨.normal, a₁, w₁, hq, .head h0 stepR_scope (StepsIn.trans harr (.one (fenced_calm hb hr rfl) stepR_inScope))⟩
  | exit id =>
    have hx : exitTo id (.inScope c :: k) = exitTo id k := by simp [exitTo]
    exact ⟨_, a₁, w₁, hq, fun k' hk => .head h0 stepR_scope (harr.1 k' (by rw [hx]; exact hk)),
      fun hr' hk => let ⟨k₁, h1, h2⟩ := harr.2 hr' (by rw [hx]; exact hk); ⟨k₁, h1, .head h0 stepR_scope h2⟩⟩
  | goto l => exact hq.elim
  | ret => exact ⟨_, a₁, w₁, hq, .of_steps (.one h0 stepR_scope) harr⟩
  | panic ch => exact ⟨_, a₁, w₁, hq, .of_steps (.one h0 stepR_scope) harr⟩
  | outgrown => exact ⟨_, a₁, w₁, hq, .of_steps (.one h0 stepR_scope) harr⟩
end
end Go
namespace Go.K
open Go Go.RowKit
def scopeQ (Q : KQ) : KQ
  | .goto _, _, _ => False
  | e, fr, σ => Q e fr σ
section
variable {C : Cx} {Q : KQ} {fr : Fr} {σ : Heap}
theorem KW.scope {c : Code} (h : KW C (scopeQ Q) c fr σ) : KW C Q (.scope c) fr σ := fun a w hS =>
  wpIn_scope (wpIn_mono (h a w hS) fun e a' w' hq => by
    cases e with
    | goto l => obtain ⟨fr', σ', h1, h2⟩ := hq; exact h2.elim
    | normal => exact hq
    | exit id => exact hq
    | ret => exact hq
    | panic ch => exact hq
    | outgrown => exact hq)
theorem KW.label {l : Nat} (h : At Q .normal fr σ) : KW C Q (.label l) fr σ := fun _ _ hS => wpIn_label ⟨fr, σ, hS, h⟩
theorem At.scope_normal (h : At Q .normal fr σ) : At (scopeQ Q) .normal fr σ := h
theorem At.scope_ret (h : At Q .ret fr σ) : At (scopeQ Q) .ret fr σ := h
theorem At.scope_exit {id : Nat} (h : At Q (.exit id) fr σ) : At (scopeQ Q) (.exit id) fr σ := h
end
/-- A call that is handed nothing, and leaves nothing. -/
theorem Tr.quiet {P : Program} {f : FuncId} {args : List Value} {β : Nat → Option Obj} {σ : Heap} {v : Value} (h : Tr P f args β [] (fun u s => u = v ∧ s = [])) : Tr P f args β σ (fun u s => u = v ∧ s = σ) :=
  ⟨h.1, fun w hw hh => (h.2 w (fun b o hb => ⟨(hw b o hb).1, by simp⟩) (Has.nil w)).mono (fun e w' ⟨v', σ', h1, h2, h3⟩ => ⟨v', σ, h1, ⟨h2.1, rfl⟩, by
    obtain ⟨_, rfl⟩ := h2
    exact h3.frame (σ := []) hh⟩)⟩
end Go.K
