/- Plain: the lines of a text, parsed one by one. -/
import Derived.Test.YtcnebanpnnblbaaDoorSA
namespace Go.Proofs.YtcnebanpnnblbaaDoor
open Go Go.K

theorem spl_no {c : Nat} : ∀ p : List Nat, (∀ x ∈ p, x ≠ c) → spl p c = [p]
  | [], _ => rfl
  | b :: p, h => by
    have ih := spl_no p (fun x hx => h x (List.mem_cons_of_mem _ hx))
    rw [spl, if_neg (h b List.mem_cons_self), ih]
def parK : List (List Nat) → Nat → GF → GF × Nat × Int
  | [], _, _ => (zG, 0, 0)
  | [t], y, g => if t ≠ [] then (zG, y + 1, 11) else (g, 0, 0)
  | t :: u :: r, y, g => if (addR g t).1 ≠ 0 then (zG, y + 1, (addR g t).1) else parK (u :: r) (y + 1) (addR g t).2
theorem parK_eq : ∀ (f n : Nat) (s : List Nat) (g : GF), s.length < f → parL f (n + 1) s g = parK (spl s 10) n g
  | 0, _, s, _, h => by omega
  | f + 1, n, s, g, h => by
    rw [parL]
    by_cases h0 : s = []
    · subst h0; rfl
    rw [if_neg h0]
    have hb := idx_lt s 10
    by_cases hi : idxB s 10 < 0
    · rw [if_pos hi, spl_none (by omega), parK, if_pos h0]
    rw [if_neg hi]
    have hs := spl_some (l := s) (c := 10) (by omega)
    obtain ⟨k, hk⟩ : ∃ k : Nat, idxB s 10 = k := ⟨(idxB s 10).toNat, by omega⟩
    rw [hk, Int.toNat_natCast] at hs ⊢
    rw [hs]
    obtain ⟨u, r, hur⟩ : ∃ u r, spl (s.drop (k + 1)) 10 = u :: r := by
      rcases hq : spl (s.drop (k + 1)) 10 with _ | ⟨u, r⟩
      · exact absurd hq (spl_ne _ _)
      · exact ⟨u, r, rfl⟩
    rw [hur, parK]
    by_cases ha : (addR g (s.take k)).1 ≠ 0
    · rw [if_pos ha, if_pos ha]
    · rw [if_neg ha, if_neg ha, parK_eq f (n + 1) (s.drop (k + 1)) _ (by rw [List.length_drop]; omega), hur]
theorem parR_eq {l : List Nat} (h1 : ¬ 131072 < l.length) (h2 : l ≠ []) : parR l = parK (spl l 10) 0 zG := by
  unfold parR
  rw [if_neg h1, if_neg h2]
  exact parK_eq _ 0 l zG (by omega)
end Go.Proofs.YtcnebanpnnblbaaDoor
