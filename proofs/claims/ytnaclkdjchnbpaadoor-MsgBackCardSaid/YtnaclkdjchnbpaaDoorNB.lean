/- The document's request of a payload, row by row. -/
import Derived.Test.YtnaclkdjchnbpaaDoorN3
namespace Go.Proofs.YtnaclkdjchnbpaaDoor
open Go Go.K

def i64 (n : Nat) : Int := IntKind.i64.wrap (n : Int)
def setR (r : Rq) (w : RowT) (x : List Nat) : Rq :=
  if w.name = sOp then { r with op := i64 (x.getD 0 0) } else if w.name = sToken then { r with tok := x.getD 0 0 } else if w.name = sUnit then { r with unit := i64 (x.getD 0 0) } else if w.name = sDir then { r with dir := i64 (x.getD 0 0) }
  else if w.name = sFrom then { r with fx := i64 (x.getD 0 0), fy := i64 (x.getD 1 0) } else if w.name = sTo then { r with tx := i64 (x.getD 0 0), ty := i64 (x.getD 1 0) } else r
def refG : List RowT → Nat → List Nat → Rq → Flt × Rq
  | [], _, l, r => if 0 < l.length then (some (sEnd, 12), Rq.zero) else (none, r)
  | w :: ws, k, l, r => if 0 < k ∧ hasR w.ops r.op = false then refG ws (k + 1) l r else if l.length < w.size * w.many then (some (w.name, 17), Rq.zero)
    else if w.name = sOp ∧ 6 < (setR r w (rdN w.size w.many l)).op then (some (sOp, 18), Rq.zero) else refG ws (k + 1) (l.drop (w.size * w.many)) (setR r w (rdN w.size w.many l))
def rDec (l : List Nat) : Flt × Rq := refG asked 0 l Rq.zero
theorem rdN_snoc (s m : Nat) (l : List Nat) : rdN s (m + 1) l = rdN s m l ++ [num ((l.drop (m * s)).take s)] := by
  unfold rdN
  rw [List.range_succ, List.map_append]
  rfl
end Go.Proofs.YtnaclkdjchnbpaaDoor
