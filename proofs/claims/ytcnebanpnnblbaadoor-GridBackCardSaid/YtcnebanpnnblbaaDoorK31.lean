/- A callee that may read the rest of the tracked heap, and whose answer may point there. -/
import Derived.Test.YtcnebanpnnblbaaDoorK30
namespace Go.K
section
variable {C : Cx} {L : Look} {ops : List Oper} {Q : KQ} {o : Oper} {rest : List Oper} {fr : Fr} {σ : Heap} {d : Nat} {g : Bool}
/-- Whatever 'β2' lets read is what 'β' lets read, or is tracked. -/
def Below (β β2 : Nat → Option Obj) (φ : Heap) : Prop := ∀ b o, β2 b = some o → β b = some o ∨ (b, o) ∈ φ
theorem eo_callX {x : Operand} {f : FuncId} {first cap : List Value} {args : Array Operand} {ts : Array TypeId} {gs : List Bool} {vs : List Value} {R : (Nat → Option Obj) → Value → Heap → Prop} (σf φ : Heap) (hp : List.Perm σ (σf ++ φ))
    (ho : o.op = .call ⟨.value x, args, ts⟩) (hx : opnd L x = some (true, .func (.func f) first.toArray cap.toArray)) (ha : opnds L args.toList = some (gs, vs)) (hi : gs.all id = true)
    (hT : ∀ β', (∀ b o, C.E.β b = some o → β' b = some o) → (∀ p ∈ φ, β' p.1 = some p.2) → Tr C.P f (first ++ vs ++ cap) β' σf (R β')) : EO C L σ o (fun v s => ∃ β' σ', Below C.E.β β' φ ∧ R β' v σ' ∧ s = σ' ++ φ) := fun a w hL hO => .inr (.inr (by
  have hsub := Sub.perm hp hO.has
  have hh := hO.has.sub hsub
  have hnd := hh.nodup
  rw [keys_append] at hnd
  obtain ⟨hn1, hn2, hn3⟩ := List.nodup_append.1 hnd
  have hhf : Has σf w := ⟨fun p hp => hh.has p (List.mem_append_left _ hp), hn1⟩
  have hb0 : ∀ b o, C.E.β b = some o → b ∉ keys φ := fun b o hb hm => (hO.ro hb).2 (hsub.keys b (by rw [keys_append]; exact List.mem_append_right _ hm))
  have hT' := hT (Go.K.frz C.E.β φ) (fun b o hb => by rw [frz_not _ (hb0 b o hb)]; exact hb) (fun p hp => frz_mem _ hn2 hp)
  refine ⟨f, _, run_call hT'.1 ho (opnd_ev hL hx rfl) (opnds_ok hL ha hi), ?_⟩
  have e : (first.toArray ++ vs.toArray) ++ cap.toArray = (first ++ vs ++ cap).toArray := by simp
  rw [e]
  refine (hT'.2 w (fun b o hb => ?_) hhf).mono ?_
  · rcases frz_of _ hb with h1 | ⟨_, h1⟩
    · exact ⟨hh.has _ (List.mem_append_right _ h1), fun hm => hn3 b hm b (List.mem_map.2 ⟨_, h1, rfl⟩) rfl⟩
    · exact ⟨(hO.ro h1).1, fun hm => (hO.ro h1).2 (hsub.keys b (by rw [keys_append]; exact List.mem_append_left _ hm))⟩
  rintro e w' ⟨v, σ', h1, h2, h3⟩
  have h4 := h3.frame hh
  exact ⟨v, h1, σ' ++ φ, ⟨_, σ', fun b o hb => (frz_of _ hb).elim .inr (fun h => .inl h.2), h2, rfl⟩, ⟨h4.os, h4.tape, h4.output, h4.size, fun b hb hnb => h4.old b hb (fun hm => hnb (hsub.keys b hm)), h4.has, fun b hb => (h4.new b hb).imp (hsub.keys b) id⟩⟩))
/-- The callee is handed σf, and may read φ; its answer may point into φ. -/
theorem KO.callX {x : Operand} {f : FuncId} {first cap : List Value} {args : Array Operand} {ts : Array TypeId} {gs : List Bool} {vs : List Value} {R : (Nat → Option Obj) → Value → Heap → Prop} (σf φ : Heap) (hp : List.Perm σ (σf ++ φ))
    (hg : guardOf ops (look fr) o = some true) (hd : o.dst = some d) (hn : Nat.blt d C.N = true) (ho : o.op = .call ⟨.value x, args, ts⟩) (hx : opnd (look fr) x = some (true, .func (.func f) first.toArray cap.toArray)) (ha : opnds (look fr) args.toList = some (gs, vs)) (hi : gs.all id = true)
    (hT : ∀ β', (∀ b o, C.E.β b = some o → β' b = some o) → (∀ p ∈ φ, β' p.1 = some p.2) → Tr C.P f (first ++ vs ++ cap) β' σf (R β')) (h : ∀ β' v σ', Below C.E.β β' φ → R β' v σ' → KO C ops Q rest ((d, true, v) :: fr) (σ' ++ φ)) : KO C ops Q (o :: rest) fr σ :=
  KO.ofEO hg hd hn (eo_callX σf φ hp ho hx ha hi hT) (fun v s ⟨β', σ', h0, h1, h2⟩ => by subst h2; exact h β' v σ' h0 h1)
end
theorem Cel.unfrz {β β' : Nat → Option Obj} {φ μ : Heap} {b off : Nat} {u : Value} (h1 : Below β β' φ) (h2 : ∀ q ∈ φ, ∃ cs e, q.2 = cl cs e) (h : Cel β' μ b off u) : Cel β (μ ++ φ) b off u := by
  rcases h with ⟨cs, e, h3, h4⟩ | ⟨c, e, fz, h3, h4⟩
  · exact .inl ⟨cs, e, List.mem_append_left _ h3, h4⟩
  · rcases h1 _ _ h3 with h5 | h5
    · exact .inr ⟨c, e, fz, h5, h4⟩
    · obtain ⟨cs, e', h6⟩ := h2 _ h5
      dsimp only at h6
      rw [h6] at h5
      refine .inl ⟨cs, e', List.mem_append_right _ h5, ?_⟩
      simp only [cl, Obj.cells.injEq] at h6
      rw [h6.1] at h4
      simpa using h4
theorem SL.unfrz {β β' : Nat → Option Obj} {φ μ : Heap} {n m : Nat} {xs : List Value} {p : Option Addr} (h1 : Below β β' φ) (h2 : ∀ q ∈ φ, ∃ cs e, q.2 = cl cs e) (h : SL β' μ n m xs p) : SL β (μ ++ φ) n m xs p :=
  ⟨h.1, fun hm => by obtain ⟨b, off, h3, h4⟩ := h.2 hm; exact ⟨b, off, h3, fun j u hj => (h4 j u hj).unfrz h1 h2⟩⟩
end Go.K
