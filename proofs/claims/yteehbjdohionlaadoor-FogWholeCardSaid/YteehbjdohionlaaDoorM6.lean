/- Masks: the list of cells of a set. -/
import Derived.Test.YteehbjdohionlaaDoorG3
import Derived.Test.YteehbjdohionlaaDoorM2
namespace Go.Proofs.YteehbjdohionlaaDoor
open Go Go.K

def celL (w : Int) (f : Nat → Bool) (n : Nat) : List (Int × Int) := ((List.range n).filter f).map fun (i : Nat) => ((i : Int) % w, (i : Int) / w)
theorem celL_step (w : Int) (f : Nat → Bool) (n : Nat) : celL w f (n + 1) = if f n then celL w f n ++ [((n : Int) % w, (n : Int) / w)] else celL w f n := by
  unfold celL
  rw [List.range_succ, List.filter_append, List.map_append]
  cases hf : f n <;> simp [List.filter_cons, hf]
theorem celL_len (w : Int) (f : Nat → Bool) : ∀ n, (celL w f n).length = cntB f n
  | 0 => rfl
  | n + 1 => by
    rw [celL_step, cntB]
    cases f n <;> simp [celL_len w f n]
end Go.Proofs.YteehbjdohionlaaDoor
