/- The program logic, sixteenth part: a callee may read what is tracked, but is not handed. -/
import Derived.Test.YtnaclkdjchnbpaaDoorK15
namespace Go.K
open Go Go.RowKit

/-- β and the blocks of φ. -/
def frz (β : Nat → Option Obj) : Heap → Nat → Option Obj
  | [], b => β b
  | (k, o) :: r, b => bif Nat.beq k b then some o else frz β r b
theorem frz_of (β : Nat → Option Obj) : ∀ {φ : Heap} {b : Nat} {o : Obj}, frz β φ b = some o → (b, o) ∈ φ ∨ (b ∉ keys φ ∧ β b = some o)
  | [], b, o, h => .inr ⟨by simp [keys], h⟩
  | (k, o') :: r, b, o, h => by
    simp only [frz] at h
    cases hk : Nat.beq k b with
    | true =>
      rw [hk] at h
      have := Nat.eq_of_beq_eq_true hk
      subst this
      simp only [cond_true, Option.some.injEq] at h
      subst h
      exact .inl (List.Mem.head _)
    | false =>
      rw [hk] at h
      have hne : b ≠ k := fun e => by subst e; rw [Nat.beq_refl] at hk; cases hk
      rcases frz_of β h with h1 | ⟨h1, h2⟩
      · exact .inl (List.Mem.tail _ h1)
      · refine .inr ⟨?_, h2⟩
        simp only [keys, List.map_cons, List.mem_cons, not_or] at h1 ⊢
        exact ⟨hne, h1⟩
theorem frz_mem (β : Nat → Option Obj) : ∀ {φ : Heap} {b : Nat} {o : Obj}, (keys φ).Nodup → (b, o) ∈ φ → frz β φ b = some o
  | (k, o') :: r, b, o, hn, h => by
    simp only [keys, List.map_cons, List.nodup_cons] at hn
    rcases List.mem_cons.1 h with h | h
    · cases h
      simp [frz, Nat.beq_refl]
    · have hne : k ≠ b := fun e => hn.1 (by subst e; exact List.mem_map.2 ⟨_, h, rfl⟩)
      have hk : Nat.beq k b = false := by
        cases hk : Nat.beq k b with
        | true => exact absurd (Nat.eq_of_beq_eq_true hk) hne
        | false => rfl
      simp only [frz, hk, cond_false]
      exact frz_mem β hn.2 h
theorem frz_not (β : Nat → Option Obj) : ∀ {φ : Heap} {b : Nat}, b ∉ keys φ → frz β φ b = β b
  | [], _, _ => rfl
  | (k, o') :: r, b, h => by
    simp only [keys, List.map_cons, List.mem_cons, not_or] at h
    have hk : Nat.beq k b = false := by
      cases hk : Nat.beq k b with
      | true => exact absurd (Nat.eq_of_beq_eq_true hk).symm h.1
      | false => rfl
    simp only [frz, hk, cond_false]
    exact frz_not β h.2
/-- What may be read, and is tracked, may be read as what is given. -/
theorem Cel.frz {β β' : Nat → Option Obj} {φ : Heap} {b off : Nat} {u : Value} (h1 : ∀ b o, β b = some o → β' b = some o) (h2 : ∀ p ∈ φ, β' p.1 = some p.2) (h : Cel β φ b off u) : Cel β' [] b off u := by
  rcases h with ⟨cs, e, h3, h4⟩ | ⟨c, e, fz, h3, h4⟩
  · exact .inr ⟨_, e, _, h2 _ h3, by simpa using h4⟩
  · exact .inr ⟨c, e, fz, h1 _ _ h3, h4⟩
theorem SL.frz {β β' : Nat → Option Obj} {φ : Heap} {n m : Nat} {xs : List Value} {p : Option Addr} (h1 : ∀ b o, β b = some o → β' b = some o) (h2 : ∀ p ∈ φ, β' p.1 = some p.2) (h : SL β φ n m xs p) : SL β' [] n m xs p :=
  ⟨h.1, fun hm => by obtain ⟨b, off, h3, h4⟩ := h.2 hm; exact ⟨b, off, h3, fun j u hj => (h4 j u hj).frz h1 h2⟩⟩

section
variable {C : Cx} {L : Look} {ops : List Oper} {Q : KQ} {o : Oper} {rest : List Oper} {fr : Fr} {σ : Heap} {d : Nat} {g : Bool}
theorem eo_callB {x : Operand} {f : FuncId} {first cap : List Value} {args : Array Operand} {ts : Array TypeId} {gs : List Bool} {vs : List Value} {R : Value → Heap → Prop} (σf φ : Heap) (hp : List.Perm σ (σf ++ φ))
    (ho : o.op = .call ⟨.value x, args, ts⟩) (hx : opnd L x = some (true, .func (.func f) first.toArray cap.toArray)) (ha : opnds L args.toList = some (gs, vs)) (hi : gs.all id = true)
    (hT : ∀ β', (∀ b o, C.E.β b = some o → β' b = some o) → (∀ p ∈ φ, β' p.1 = some p.2) → Tr C.P f (first ++ vs ++ cap) β' σf R) : EO C L σ o (fun v s => ∃ σ', R v σ' ∧ s = σ' ++ φ) := fun a w hL hO => .inr (.inr (by
  have hsub := Sub.perm hp hO.has
  have hh := hO.has.sub hsub
  have hnd := hh.nodup
  rw [keys_append] at hnd
  obtain ⟨hn1, hn2, hn3⟩ := List.nodup_append.1 hnd
  have hhf : Has σf w := ⟨fun p hp => hh.has p (List.mem_append_left _ hp), hn1⟩
  have hb0 : ∀ b o, C.E.β b = some o → b ∉ keys φ := fun b o hb hm => (hO.ro hb).2 (hsub.keys b (by rw [keys_append]; exact List.mem_append_right _ hm))
  have hT' := hT (Go.K.frz C.E.β φ) (fun b o hb => by rw [frz_not _ (hb0 b o hb)]; exact hb) (fun p hp => frz_mem _ hn2 hp)
  refine ⟨f, _, run_call hT'.1 ho (opnd_ev hL hx rfl) (opnds_ok hL ha hi), ?_⟩
  have e : (first.toArray ++ vs.toArray) ++ cap.toArray = (first ++ vs ++ cap).toArray := by simp
  rw [e]
  refine (hT'.2 w (fun b o hb => ?_) hhf).mono ?_
  · rcases frz_of _ hb with h1 | ⟨_, h1⟩
    · exact ⟨hh.has _ (List.mem_append_right _ h1), fun hm => hn3 b hm b (List.mem_map.2 ⟨_, h1, rfl⟩) rfl⟩
    · exact ⟨(hO.ro h1).1, fun hm => (hO.ro h1).2 (hsub.keys b (by rw [keys_append]; exact List.mem_append_left _ hm))⟩
  rintro e w' ⟨v, σ', h1, h2, h3⟩
  have h4 := h3.frame hh
  exact ⟨v, h1, σ' ++ φ, ⟨σ', h2, rfl⟩, ⟨h4.os, h4.tape, h4.output, h4.size, fun b hb hnb => h4.old b hb (fun hm => hnb (hsub.keys b hm)), h4.has, fun b hb => (h4.new b hb).imp (hsub.keys b) id⟩⟩))
/-- The callee is handed σf, and may read φ. -/
theorem KO.callB {x : Operand} {f : FuncId} {first cap : List Value} {args : Array Operand} {ts : Array TypeId} {gs : List Bool} {vs : List Value} {R : Value → Heap → Prop} (σf φ : Heap) (hp : List.Perm σ (σf ++ φ))
    (hg : guardOf ops (look fr) o = some true) (hd : o.dst = some d) (hn : Nat.blt d C.N = true) (ho : o.op = .call ⟨.value x, args, ts⟩) (hx : opnd (look fr) x = some (true, .func (.func f) first.toArray cap.toArray)) (ha : opnds (look fr) args.toList = some (gs, vs)) (hi : gs.all id = true)
    (hT : ∀ β', (∀ b o, C.E.β b = some o → β' b = some o) → (∀ p ∈ φ, β' p.1 = some p.2) → Tr C.P f (first ++ vs ++ cap) β' σf R) (h : ∀ v σ', R v σ' → KO C ops Q rest ((d, true, v) :: fr) (σ' ++ φ)) : KO C ops Q (o :: rest) fr σ :=
  KO.ofEO hg hd hn (eo_callB σf φ hp ho hx ha hi hT) (fun v s ⟨σ', h1, h2⟩ => by subst h2; exact h v σ' h1)
/-- A row of no elements. -/
theorem KO.buildSlice0 {t e n m : Nat} {z : Value} (hg : guardOf ops (look fr) o = some true) (hd : o.dst = some d) (hn : Nat.blt d C.N = true) (ho : o.op = .buildSlice t 0 #[])
    (hu : C.T.u t = some (.slice e)) (hz : C.T.i e = some (z, n, m)) (h : ∀ b, b ∉ keys σ → KO C ops Q rest ((d, true, .slice (some ⟨b, 0, none⟩) 0 0) :: fr) ((b, cl [] e) :: σ)) : KO C ops Q (o :: rest) fr σ := by
  refine KO.eff (Post := fun v σ' => ∃ b, b ∉ keys σ ∧ v = .slice (some ⟨b, 0, none⟩) 0 0 ∧ σ' = (b, cl [] e) :: σ) hg hd hn (fun a w hL hO => .inl ?_) ?_
  · refine ⟨.slice (some ⟨w.heap.size, 0, none⟩) 0 0, w.alloc (cl [] e), ?_, _, ⟨w.heap.size, hO.has.fresh, rfl, rfl⟩, Stp.alloc hO.has _⟩
    simp [execOp, ho, Instr.buildSlice, run_underlying (TT.u_ok hu), run_sizeOf hz, newRow, cl, Instr.fill]
    have e0 : ∀ f : Nat → Value, Array.map f (Array.range 0) = #[] := fun f => by simp [Array.range]
    rw [e0]
  · rintro v σ' ⟨b, hb, rfl, rfl⟩; exact h b hb
end
end Go.K
