/- The program logic, twenty-sixth part: what is tracked may be read by a callee, or by a generator, alone. -/
import Derived.Test.YteehbjdohionlaaDoorK25
namespace Go.K
open Go Go.RowKit

theorem Tr.frzB {P : Program} {f : FuncId} {args : List Value} {β : Nat → Option Obj} {σf φ : Heap} {R : Value → Heap → Prop} (hok : FnOk P f)
    (hT : ∀ β', (∀ b o, β b = some o → β' b = some o) → (∀ p ∈ φ, β' p.1 = some p.2) → Tr P f args β' σf R) : Tr P f args β (σf ++ φ) (fun v s => ∃ σ', R v σ' ∧ s = σ' ++ φ) := ⟨hok, fun w hro hh => by
  have hnd := hh.nodup
  rw [keys_append] at hnd
  obtain ⟨hn1, hn2, hn3⟩ := List.nodup_append.1 hnd
  have hhf : Has σf w := ⟨fun p hp => hh.has p (List.mem_append_left _ hp), hn1⟩
  have hb0 : ∀ b o, β b = some o → b ∉ keys φ := fun b o hb hm => (hro b o hb).2 (by rw [keys_append]; exact List.mem_append_right _ hm)
  have hT' := hT (Go.K.frz β φ) (fun b o hb => by rw [frz_not _ (hb0 b o hb)]; exact hb) (fun p hp => frz_mem _ hn2 hp)
  refine (hT'.2 w (fun b o hb => ?_) hhf).mono ?_
  · rcases frz_of _ hb with h1 | ⟨_, h1⟩
    · exact ⟨hh.has _ (List.mem_append_right _ h1), fun hm => hn3 b hm b (List.mem_map.2 ⟨_, h1, rfl⟩) rfl⟩
    · exact ⟨(hro b o h1).1, fun hm => (hro b o h1).2 (by rw [keys_append]; exact List.mem_append_left _ hm)⟩
  rintro e w' ⟨v, σ', h1, h2, h3⟩
  exact ⟨v, σ' ++ φ, h1, ⟨σ', h2, rfl⟩, h3.frame hh⟩⟩
/-- A generator that reads what is tracked. -/
theorem Iter.frz {P : Program} {f : FuncId} {first cap : List Value} {β : Nat → Option Obj} {σc τ : Heap} {items : List (List Value)} (hok : FnOk P f)
    (h : ∀ β', (∀ b o, β b = some o → β' b = some o) → (∀ p ∈ τ, β' p.1 = some p.2) → Iter P f first cap β' σc items) : Iter P f first cap β (σc ++ τ) items := ⟨hok, fun l β' J Jx hβ hY σ h0 => by
  have := Tr.frzB (P := P) (f := f) (args := first ++ [.func (.yield l) #[] #[]] ++ cap) (β := β') (σf := σ ++ σc) (φ := τ) (R := fun v σ' => v = .tuple #[] ∧ ∃ σ'', σ' = σ'' ++ σc ∧ (J items.length σ'' ∨ Jx σ'')) hok
    (fun β'' g1 g2 => (h β'' (fun b o hb => g1 _ _ (hβ _ _ hb)) g2).run l β'' J Jx (fun _ _ h => h) (fun j x σ hx hJ => ⟨fun w hro hh => (hY j x σ hx hJ).run w (Ro.mono g1 hro) hh⟩) σ h0)
  rw [List.append_assoc σ σc τ] at this
  exact this.mono (by rintro v s ⟨σ', ⟨h1, σ'', rfl, h2⟩, rfl⟩; exact ⟨h1, σ'', by simp, h2⟩)⟩
end Go.K
