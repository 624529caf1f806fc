/- The program logic, twenty-fifth part: blocks that are no longer wanted are left behind, others laid ahead. -/
import Derived.Test.YteehbjdohionlaaDoorK24
namespace Go.K
open Go Go.RowKit

section
variable {C : Cx} {L : Look} {ops : List Oper} {Q : KQ} {o : Oper} {rest : List Oper} {fr : Fr} {σ : Heap} {d : Nat}

theorem Sub.drop {σ' dr : Heap} {w : World} (h : List.Perm σ (σ' ++ dr)) (hh : Has σ w) : Sub σ' σ := by
  have h1 := Sub.perm h hh
  refine ⟨fun p hp => h1.1 p (List.mem_append_left _ hp), ?_⟩
  have := h1.2
  rw [keys_append] at this
  exact (List.nodup_append.1 this).1
theorem KW.drop {c : Code} {σ' : Heap} (dr : Heap) (h : List.Perm σ (σ' ++ dr)) (hk : KW C Q c fr σ') : KW C Q c fr σ := fun a w hS => hk a w (hS.weak hS.fr (Sub.drop h hS.own.has))
theorem KO.drop {l : List Oper} {σ' : Heap} (dr : Heap) (h : List.Perm σ (σ' ++ dr)) (hk : KO C ops Q l fr σ') : KO C ops Q l fr σ := fun a w hS => hk a w (hS.weak hS.fr (Sub.drop h hS.own.has))
theorem KA.drop {t : Nat} {σ' : Heap} (dr : Heap) (h : List.Perm σ (σ' ++ dr)) (hk : KA C ops Q t fr σ') : KA C ops Q t fr σ := fun M a w h1 h2 hS => hk M a w h1 h2 (hS.weak hS.fr (Sub.drop h hS.own.has))
theorem EO.drop {R R' : Value → Heap → Prop} (h : EO C L σ o R) (hs : ∀ v s, R v s → ∃ s' dr, List.Perm s (s' ++ dr) ∧ R' v s') : EO C L σ o R' := fun a w hL hO => by
  have fin : ∀ v w', (∃ σ', R v σ' ∧ Stp σ σ' w w') → ∃ σ', R' v σ' ∧ Stp σ σ' w w' := fun v w' ⟨s, h1, h2⟩ => by
    obtain ⟨s', dr, h3, h4⟩ := hs v s h1
    exact ⟨s', h4, h2.sub (Sub.drop h3 h2.has)⟩
  rcases h a w hL hO with ⟨v, w', e1, e2⟩ | ⟨w', e1, e2⟩ | ⟨f, args, e1, e2⟩
  · exact .inl ⟨v, w', e1, fin v w' e2⟩
  · exact .inr (.inl ⟨w', e1, fin undef w' e2⟩)
  · exact .inr (.inr ⟨f, args, e1, e2.mono fun e w' ⟨v, h3, h4⟩ => ⟨v, h3, fin v w' h4⟩⟩)
/-- eo_callB, with some blocks laid ahead ('ba'), some left behind ('dr'). -/
theorem eo_callBD {x : Operand} {f : FuncId} {first cap : List Value} {args : Array Operand} {ts : Array TypeId} {gs : List Bool} {vs : List Value} {R : Value → Heap → Prop} (σf φ ba keep dr : Heap) (hp : List.Perm σ (σf ++ φ)) (hq : List.Perm φ (ba ++ (keep ++ dr)))
    (ho : o.op = .call ⟨.value x, args, ts⟩) (hx : opnd L x = some (true, .func (.func f) first.toArray cap.toArray)) (ha : opnds L args.toList = some (gs, vs)) (hi : gs.all id = true)
    (hT : ∀ β', (∀ b o, C.E.β b = some o → β' b = some o) → (∀ p ∈ φ, β' p.1 = some p.2) → Tr C.P f (first ++ vs ++ cap) β' σf R) : EO C L σ o (fun v s => ∃ σ', R v σ' ∧ s = ba ++ (σ' ++ keep)) :=
  (eo_callB σf φ hp ho hx ha hi hT).drop (by
    rintro v s ⟨σ', h1, rfl⟩
    refine ⟨ba ++ (σ' ++ keep), dr, ?_, σ', h1, rfl⟩
    refine (List.Perm.append_left σ' hq).trans ?_
    classical
    exact List.perm_iff_count.2 (fun a => by simp only [List.count_append]; omega))
theorem KO.callBD {x : Operand} {f : FuncId} {first cap : List Value} {args : Array Operand} {ts : Array TypeId} {gs : List Bool} {vs : List Value} {R : Value → Heap → Prop} (σf φ ba keep dr : Heap) (hp : List.Perm σ (σf ++ φ)) (hq : List.Perm φ (ba ++ (keep ++ dr)))
    (hg : guardOf ops (look fr) o = some true) (hd : o.dst = some d) (hn : Nat.blt d C.N = true) (ho : o.op = .call ⟨.value x, args, ts⟩) (hx : opnd (look fr) x = some (true, .func (.func f) first.toArray cap.toArray)) (ha : opnds (look fr) args.toList = some (gs, vs)) (hi : gs.all id = true)
    (hT : ∀ β', (∀ b o, C.E.β b = some o → β' b = some o) → (∀ p ∈ φ, β' p.1 = some p.2) → Tr C.P f (first ++ vs ++ cap) β' σf R) (h : ∀ v σ', R v σ' → KO C ops Q rest ((d, true, v) :: fr) (ba ++ (σ' ++ keep))) : KO C ops Q (o :: rest) fr σ :=
  KO.ofEO hg hd hn (eo_callBD σf φ ba keep dr hp hq ho hx ha hi hT) (fun v s ⟨σ', h1, h2⟩ => by subst h2; exact h v σ' h1)
end
end Go.K
