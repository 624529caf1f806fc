/- The document's answer for requests, in plain Lean, and that the program's is the same; That the program's payload of a request is the document's; The document's request of a payload, in plain Lean, and that the program's is the same. -/
import Derived.Test.YtnaclkdjchnbpaaDoorM7
namespace Go.Proofs.YtnaclkdjchnbpaaDoor
open Go Go.K

/-- A row of a table. -/
structure RowT where
  name : ByteArray
  size : Nat
  many : Nat
  ops : List Nat
def hasR (ops : List Nat) (op : Int) : Bool := ops.any fun b => decide ((b : Int) - 48 = op)
def asked : List RowT := [⟨sOp, 1, 1, [48, 49, 50, 51, 52, 53, 54]⟩, ⟨sToken, 8, 1, [49, 50, 51, 52, 53, 54]⟩, ⟨sUnit, 1, 1, [50]⟩, ⟨sDir, 1, 1, [50]⟩, ⟨sFrom, 2, 2, [52, 53]⟩, ⟨sTo, 2, 2, [52, 53]⟩]
def numsR (r : Rq) (n : ByteArray) : List Nat := if n = sOp then [u64 r.op] else if n = sToken then [r.tok] else if n = sUnit then [u64 r.unit] else if n = sDir then [u64 r.dir] else if n = sFrom then [u64 r.fx, u64 r.fy] else [u64 r.tx, u64 r.ty]
def layL (size : Nat) : List Nat → List Nat → Option (List Nat)
  | out, [] => some out
  | out, x :: l => if x / 2 ^ (8 * size) = 0 then layL size (out ++ bes x size size) l else none
def nought (l : List Nat) : Bool := l.all fun x => decide (x = 0)
/-- The rows that are laid, whatever a row's numbers are, and whether it is there. -/
def refE1 (has : RowT → Bool) (nums : RowT → List Nat) : List RowT → List Nat → Flt × List Nat
  | [], out => (none, out)
  | w :: ws, out => if has w then (match layL w.size out (nums w) with
      | none => (some (w.name, 10), [])
      | some o => refE1 has nums ws o) else refE1 has nums ws out
def refE2 (has : RowT → Bool) (nums : RowT → List Nat) (ws : List RowT) : Bool := ws.any fun w => !has w && !nought (nums w)
def hasO (o : Int) (w : RowT) : Bool := hasR w.ops o
def numsQ (r : Rq) (w : RowT) : List Nat := numsR r w.name
def fin (x : Flt × List Nat) (left : Bool) : Flt × List Nat := match x with
  | (some y, _) => (some y, [])
  | (none, o) => if left then (some (sEnd, 1), []) else (none, o)
def rEnc (r : Rq) : Flt × List Nat := if r.op < 0 ∨ 6 < r.op then (some (sOp, 18), []) else fin (refE1 (hasO r.op) (numsQ r) asked []) (refE2 (hasO r.op) (numsQ r) asked)
/-- One number put. -/
def putF1 (x : List Nat × Flt) (f : ByteArray × Nat × Nat) : List Nat × Flt := match x.2 with
  | some _ => x
  | none => if f.2.2 / 2 ^ (8 * f.2.1) = 0 then (x.1 ++ bes f.2.2 f.2.1 f.2.1, none) else (x.1, some (f.1, 10))
def putF (l : List (ByteArray × Nat × Nat)) (x : List Nat × Flt) : List Nat × Flt := l.foldl putF1 x
theorem putF_some (y : ByteArray × Int) (xs : List Nat) : ∀ l, putF l (xs, some y) = (xs, some y)
  | [] => rfl
  | _ :: l => putF_some y xs l
theorem putF_append (l l' : List (ByteArray × Nat × Nat)) (x : List Nat × Flt) : putF (l ++ l') x = putF l' (putF l x) := List.foldl_append
def ent (w : RowT) (ns : List Nat) : List (ByteArray × Nat × Nat) := ns.map fun n => (w.name, w.size, n)
def cutO (x : List Nat × Flt) : Flt × List Nat := match x.2 with
  | some y => (some y, [])
  | none => (none, x.1)
theorem layL_put (w : RowT) : ∀ (ns out : List Nat), (layL w.size out ns = none ∧ ∃ o, putF (ent w ns) (out, none) = (o, some (w.name, 10))) ∨ ∃ o, layL w.size out ns = some o ∧ putF (ent w ns) (out, none) = (o, none)
  | [], out => .inr ⟨out, rfl, rfl⟩
  | n :: ns, out => by
    by_cases h : n / 2 ^ (8 * w.size) = 0
    · have e1 : layL w.size out (n :: ns) = layL w.size (out ++ bes n w.size w.size) ns := by rw [layL, if_pos h]
      have e2 : putF (ent w (n :: ns)) (out, none) = putF (ent w ns) (out ++ bes n w.size w.size, none) := by
        show putF (ent w ns) (putF1 (out, none) (w.name, w.size, n)) = _
        simp only [putF1, h, if_true]
      rw [e1, e2]
      exact layL_put w ns _
    · refine .inl ⟨by rw [layL, if_neg h], out, ?_⟩
      show putF (ent w ns) (putF1 (out, none) (w.name, w.size, n)) = _
      simp only [putF1, h, if_false]
      exact putF_some _ _ _
theorem refE1_put (has : RowT → Bool) (nums : RowT → List Nat) : ∀ (ws : List RowT) (out : List Nat), refE1 has nums ws out = cutO (putF ((ws.filter has).flatMap fun w => ent w (nums w)) (out, none))
  | [], _ => rfl
  | w :: ws, out => by
    by_cases h : has w = true
    · rw [List.filter_cons, if_pos h, List.flatMap_cons, putF_append]
      unfold refE1
      rw [if_pos h]
      rcases layL_put w (nums w) out with ⟨e1, o, e2⟩ | ⟨o, e1, e2⟩
      · rw [e1, e2, putF_some]; rfl
      · rw [e1, e2]
        exact refE1_put has nums ws o
    · rw [List.filter_cons, if_neg h]
      unfold refE1
      rw [if_neg h]
      exact refE1_put has nums ws out
theorem u64_zero {n : Int} (h : I64 n) : (u64 n = 0) ↔ n = 0 := by
  unfold u64; unfold I64 at h; omega
theorem stepW_f (xs : List Nat) (x : Flt) (name : ByteArray) (X : Nat) (s : Nat) (h1 : 1 ≤ s) (h8 : s ≤ 8) (hX : X < 18446744073709551616) :
    stepW (.put xs) x name X s = (.put (putF1 (xs, x) (name, s, X)).1, (putF1 (xs, x) (name, s, X)).2, X) := by
  rcases x with _ | y
  · have hm : wMay (s : Int) = true := by simp only [wMay, Bool.and_eq_true, decide_eq_true_eq]; omega
    have e : putE X s = if X / 2 ^ (8 * s) = 0 then 0 else 10 := by
      unfold putE
      rw [if_pos hm, Int.toNat_natCast]
      by_cases h : s = 8
      · subst h
        have : X / 2 ^ (8 * 8) = 0 := Nat.div_eq_of_lt hX
        rw [if_neg (by omega), if_pos this]
      · by_cases h0 : X / 2 ^ (8 * s) = 0
        · rw [if_neg (by simp [h0]), if_pos h0]
        · rw [if_pos ⟨by omega, h0⟩, if_neg h0]
    show ((Md.put (xs ++ putB X s)), note none name (putE X s), X) = _
    unfold putB putF1
    rw [e]
    by_cases h0 : X / 2 ^ (8 * s) = 0
    · simp only [h0, if_true, Int.toNat_natCast, note]
    · simp only [h0, if_false, note, List.append_nil, show ((10 : Int) = 0) = False from by simp]
  · rfl
theorem stepN_f (xs : List Nat) (x : Flt) (name : ByteArray) {N : Int} (s : Nat) (h1 : 1 ≤ s) (h8 : s ≤ 8) (h : I64 N) :
    stepN (.put xs) x name N s = (.put (putF1 (xs, x) (name, s, u64 N)).1, (putF1 (xs, x) (name, s, u64 N)).2, N) := by
  unfold stepN
  rw [stepW_f xs x name (u64 N) s h1 h8 (u64_lt N)]
  simp only [i64_u64 h]
theorem stepC_f (xs : List Nat) (x : Flt) (name : ByteArray) {X Y : Int} (h : I64 X) (h' : I64 Y) :
    stepC (.put xs) x name X Y = (.put (putF [(name, 2, u64 X), (name, 2, u64 Y)] (xs, x)).1, (putF [(name, 2, u64 X), (name, 2, u64 Y)] (xs, x)).2, X, Y) := by
  have e1 := stepN_f xs x name 2 (by omega) (by omega) h
  have e2 := stepN_f (putF1 (xs, x) (name, 2, u64 X)).1 (putF1 (xs, x) (name, 2, u64 X)).2 name 2 (by omega) (by omega) h'
  show ((stepN (stepN _ _ name X (2 : Nat)).1 (stepN _ _ name X (2 : Nat)).2.1 name Y (2 : Nat)).1, (stepN (stepN _ _ name X (2 : Nat)).1 (stepN _ _ name X (2 : Nat)).2.1 name Y (2 : Nat)).2.1, (stepN _ _ name X (2 : Nat)).2.2, (stepN (stepN _ _ name X (2 : Nat)).1 (stepN _ _ name X (2 : Nat)).2.1 name Y (2 : Nat)).2.2) = _
  simp only [e1, e2]
  rfl
/-- The numbers of a request, by operation. -/
def entR (r : Rq) : List (ByteArray × Nat × Nat) :=
  (sOp, 1, u64 r.op) :: (if opSize r.op = 0 then [] else (sToken, 8, r.tok) :: (if r.op = 2 then [(sUnit, 1, u64 r.unit), (sDir, 1, u64 r.dir)] else if r.op = 4 ∨ r.op = 5 then [(sFrom, 2, u64 r.fx), (sFrom, 2, u64 r.fy), (sTo, 2, u64 r.tx), (sTo, 2, u64 r.ty)] else []))
theorem stepR_f (r : Rq) (h : r.Ok) (ho : ¬ (r.op < 0 ∨ 7 ≤ r.op)) : stepR (.put []) r = (.put (putF (entR r) ([], none)).1, (putF (entR r) ([], none)).2, r) := by
  have e0 : u64 r.op / 2 ^ (8 * 1) = 0 := by unfold u64; omega
  have h1 := stepN_f [] none sOp 1 (by omega) (by omega) h.op
  have h2 : putF1 ([], none) (sOp, 1, u64 r.op) = ([] ++ bes (u64 r.op) 1 1, none) := by simp only [putF1, e0, if_true]
  rw [h2] at h1
  obtain ⟨xs, hx⟩ : ∃ xs, xs = [] ++ bes (u64 r.op) 1 1 := ⟨_, rfl⟩
  have e3 : putF (entR r) ([], none) = putF (entR r).tail (xs, none) := by
    show putF (entR r).tail (putF1 ([], none) (sOp, 1, u64 r.op)) = _
    rw [h2, hx]
  rw [e3]
  rw [← hx] at h1
  unfold stepR
  have h1' : stepN (.put []) none sOp r.op 1 = (.put xs, none, r.op) := h1
  rw [h1']
  dsimp only
  rw [if_neg ho]
  unfold entR
  by_cases h0 : opSize r.op = 0
  · rw [if_pos h0, if_pos h0]; rfl
  · rw [if_neg h0, if_neg h0, List.tail_cons]
    unfold stepR2
    dsimp only
    have h8 : stepW (.put xs) none sToken r.tok 8 = _ := stepW_f xs none sToken r.tok 8 (by omega) (by omega) h.tok
    rw [h8]
    obtain ⟨q, hq⟩ : ∃ q, q = putF1 (xs, none) (sToken, 8, r.tok) := ⟨_, rfl⟩
    have e5 : ∀ l, putF ((sToken, 8, r.tok) :: l) (xs, none) = putF l q := by intro l; rw [hq]; rfl
    rw [e5, ← hq]
    dsimp only
    by_cases h2 : r.op = 2
    · rw [if_pos h2, if_pos h2]
      have hu : stepN (.put q.1) q.2 sUnit r.unit 1 = _ := stepN_f q.1 q.2 sUnit 1 (by omega) (by omega) h.unit
      rw [hu]
      dsimp only
      have hd : stepN (.put (putF1 (q.1, q.2) (sUnit, 1, u64 r.unit)).1) (putF1 (q.1, q.2) (sUnit, 1, u64 r.unit)).2 sDir r.dir 1 = _ := stepN_f _ _ sDir 1 (by omega) (by omega) h.dir
      rw [hd]
      rfl
    · rw [if_neg h2, if_neg h2]
      by_cases h4 : r.op = 4 ∨ r.op = 5
      · rw [if_pos h4, if_pos h4, stepC_f q.1 q.2 sFrom h.fx h.fy]
        dsimp only
        rw [stepC_f _ _ sTo h.tx h.ty]
        rfl
      · rw [if_neg h4, if_neg h4]
        rfl

def enc (r : Rq) : Flt × List Nat := match encF r with
  | none => (none, encB r)
  | some y => (some y, [])
theorem nt1 (r : Rq) : numsR r sOp = [u64 r.op] := by unfold numsR; rw [if_pos rfl]
theorem nt2 (r : Rq) : numsR r sToken = [r.tok] := by unfold numsR; rw [if_neg (by decide), if_pos rfl]
theorem nt3 (r : Rq) : numsR r sUnit = [u64 r.unit] := by unfold numsR; rw [if_neg (by decide), if_neg (by decide), if_pos rfl]
theorem nt4 (r : Rq) : numsR r sDir = [u64 r.dir] := by unfold numsR; rw [if_neg (by decide), if_neg (by decide), if_neg (by decide), if_pos rfl]
theorem nt5 (r : Rq) : numsR r sFrom = [u64 r.fx, u64 r.fy] := by unfold numsR; rw [if_neg (by decide), if_neg (by decide), if_neg (by decide), if_neg (by decide), if_pos rfl]
theorem nt6 (r : Rq) : numsR r sTo = [u64 r.tx, u64 r.ty] := by unfold numsR; rw [if_neg (by decide), if_neg (by decide), if_neg (by decide), if_neg (by decide), if_neg (by decide)]
theorem enc_eq (r : Rq) (h : r.Ok) (ho : ¬ (r.op < 0 ∨ 7 ≤ r.op)) : enc r = fin (cutO (putF (entR r) ([], none))) (leftR r) := by
  unfold enc encF encB
  rw [if_neg ho, stepR_f r h ho]
  rcases putF (entR r) ([], none) with ⟨o, x⟩
  rcases x with _ | y
  · cases leftR r <;> rfl
  · cases leftR r <;> rfl
theorem op_cases {o : Int} (ho : ¬ (o < 0 ∨ 7 ≤ o)) : o = 0 ∨ o = 1 ∨ o = 2 ∨ o = 3 ∨ o = 4 ∨ o = 5 ∨ o = 6 := by omega
theorem noughts (l : List Nat) : nought l = decide (∀ x ∈ l, x = 0) := by
  unfold nought
  rw [Bool.eq_iff_iff]
  simp
theorem ent_same (r : Rq) (ho : ¬ (r.op < 0 ∨ 7 ≤ r.op)) : ((asked.filter (hasO r.op)).flatMap fun w => ent w (numsQ r w)) = entR r := by
  unfold entR
  rcases op_cases ho with h | h | h | h | h | h | h <;> rw [h] <;>
    simp [asked, List.filter_cons, hasO, hasR, ent, numsQ, nt1, nt2, nt3, nt4, nt5, nt6, opSize, h]
theorem left_same (r : Rq) (hr : r.Ok) (ho : ¬ (r.op < 0 ∨ 7 ≤ r.op)) : refE2 (hasO r.op) (numsQ r) asked = leftR r := by
  have z1 := u64_zero hr.unit
  have z2 := u64_zero hr.dir
  have z3 := u64_zero hr.fx
  have z4 := u64_zero hr.fy
  have z5 := u64_zero hr.tx
  have z6 := u64_zero hr.ty
  unfold leftR refE2
  rw [Bool.eq_iff_iff]
  rcases op_cases ho with h | h | h | h | h | h | h <;> rw [h] <;>
    simp [asked, hasO, hasR, numsQ, noughts, nt1, nt2, nt3, nt4, nt5, nt6, z1, z2, z3, z4, z5, z6] <;> omega
theorem enc_same (r : Rq) (h : r.Ok) : enc r = rEnc r := by
  by_cases ho : r.op < 0 ∨ 7 ≤ r.op
  · unfold enc encF rEnc
    rw [if_pos ho, if_pos (by omega)]
  · rw [enc_eq r h ho]
    unfold rEnc
    rw [if_neg (by omega), refE1_put, ent_same r ho, left_same r h ho]

/-- One number taken. -/
def tk1 (f : ByteArray × Nat) (l : List Nat) : Flt × List Nat × Nat := if f.2 ≤ l.length then (none, l.drop f.2, num (l.take f.2)) else (some (f.1, 17), l, 0)
def takF : List (ByteArray × Nat) → List Nat → Flt × List Nat × List Nat
  | [], l => (none, l, [])
  | f :: fs, l => match tk1 f l with
    | (some y, l', _) => (some y, l', [])
    | (none, l', n) => ((takF fs l').1, (takF fs l').2.1, n :: (takF fs l').2.2)
theorem stepW_t (l : List Nat) (name : ByteArray) (X : Nat) (s : Nat) (h1 : 1 ≤ s) (h8 : s ≤ 8) :
    stepW (.take l) none name X s = (.take (tk1 (name, s) l).2.1, (tk1 (name, s) l).1, (tk1 (name, s) l).2.2) := by
  have hm : wMay (s : Int) = true := by simp only [wMay, Bool.and_eq_true, decide_eq_true_eq]; omega
  unfold stepW tk1
  simp only [Md.step, hm, if_true, Int.toNat_natCast]
  by_cases h : s ≤ l.length
  · rw [if_pos (by omega), if_pos h]; rfl
  · rw [if_neg (by omega), if_neg h]; rfl
theorem stepN_t (l : List Nat) (name : ByteArray) (N : Int) (s : Nat) (h1 : 1 ≤ s) (h8 : s ≤ 8) :
    stepN (.take l) none name N s = (.take (tk1 (name, s) l).2.1, (tk1 (name, s) l).1, IntKind.i64.wrap ((tk1 (name, s) l).2.2 : Int)) := by
  unfold stepN
  rw [stepW_t l name (u64 N) s h1 h8]
theorem stepW_s (md : Md) (y : ByteArray × Int) (name : ByteArray) (X : Nat) (s : Int) : stepW md (some y) name X s = (md, some y, X) := rfl
theorem stepN_s (md : Md) (y : ByteArray × Int) (name : ByteArray) (N : Int) (s : Int) : (stepN md (some y) name N s).1 = md ∧ (stepN md (some y) name N s).2.1 = some y := ⟨rfl, rfl⟩
theorem stepC_s (md : Md) (y : ByteArray × Int) (name : ByteArray) (X Y : Int) : (stepC md (some y) name X Y).2.1 = some y := rfl
theorem stepC_t (l : List Nat) (name : ByteArray) (X Y : Int) : stepC (.take l) none name X Y = (match tk1 (name, 2) l with
    | (some y, l', n) => (.take l', some y, IntKind.i64.wrap (n : Int), IntKind.i64.wrap (u64 Y : Int))
    | (none, l', n) => (.take (tk1 (name, 2) l').2.1, (tk1 (name, 2) l').1, IntKind.i64.wrap (n : Int), IntKind.i64.wrap ((tk1 (name, 2) l').2.2 : Int))) := by
  have e1 : stepN (.take l) none name X 2 = _ := stepN_t l name X 2 (by omega) (by omega)
  rcases hq : tk1 (name, 2) l with ⟨x, l', n⟩
  rw [hq] at e1
  dsimp only at e1
  rcases x with _ | y
  · have e2 : stepN (.take l') none name Y 2 = _ := stepN_t l' name Y 2 (by omega) (by omega)
    simp only [stepC, e1, e2]
  · simp only [stepC, e1]
    rfl
/-- What a row's numbers are. -/
def rdN (size many : Nat) (l : List Nat) : List Nat := (List.range many).map fun k => num ((l.drop (k * size)).take size)
section
variable {R : Type} (set : R → RowT → List Nat → R)
def rows (ws : List RowT) : List (ByteArray × Nat) := ws.flatMap fun w => List.replicate w.many (w.name, w.size)
def setAll : List RowT → List Nat → R → R
  | [], _, r => r
  | w :: ws, ns, r => setAll ws (ns.drop w.many) (set r w (ns.take w.many))
/-- Row by row. -/
def refD (has : RowT → Bool) : List RowT → List Nat → R → Flt × List Nat × R
  | [], l, r => (none, l, r)
  | w :: ws, l, r => if has w then (if l.length < w.size * w.many then (some (w.name, 17), l, r) else refD has ws (l.drop (w.size * w.many)) (set r w (rdN w.size w.many l))) else refD has ws l r
theorem refD_filter (has : RowT → Bool) : ∀ (ws : List RowT) (l : List Nat) (r : R), refD set has ws l r = refD set (fun _ => true) (ws.filter has) l r
  | [], _, _ => rfl
  | w :: ws, l, r => by
    by_cases h : has w = true
    · rw [List.filter_cons, if_pos h]
      unfold refD
      rw [if_pos h, if_pos rfl]
      split
      · rfl
      · exact refD_filter has ws _ _
    · rw [List.filter_cons, if_neg h, refD, if_neg h]
      exact refD_filter has ws l r
theorem takF_rep_no (f : ByteArray × Nat) (fs : List (ByteArray × Nat)) : ∀ (m : Nat) (l : List Nat), l.length < f.2 * m → ∃ l' ns, takF (List.replicate m f ++ fs) l = (some (f.1, 17), l', ns)
  | 0, l, h => absurd h (by omega)
  | m + 1, l, h => by
    rw [List.replicate_succ, List.cons_append]
    unfold takF tk1
    by_cases h1 : f.2 ≤ l.length
    · rw [if_pos h1]
      obtain ⟨l', ns, e⟩ := takF_rep_no f fs m (l.drop f.2) (by rw [List.length_drop, Nat.mul_succ] at *; omega)
      dsimp only
      rw [e]
      exact ⟨_, _, rfl⟩
    · rw [if_neg h1]
      exact ⟨_, _, rfl⟩
theorem rdN_succ (s m : Nat) (l : List Nat) : rdN s (m + 1) l = num (l.take s) :: rdN s m (l.drop s) := by
  unfold rdN
  rw [List.range_succ_eq_map, List.map_cons, List.map_map, Nat.zero_mul, List.drop_zero]
  congr 1
  apply List.map_congr_left
  intro k _
  show num ((l.drop ((k + 1) * s)).take s) = _
  rw [List.drop_drop, Nat.succ_mul, Nat.add_comm s]
theorem takF_rep (f : ByteArray × Nat) (fs : List (ByteArray × Nat)) : ∀ (m : Nat) (l : List Nat), f.2 * m ≤ l.length → takF (List.replicate m f ++ fs) l = ((takF fs (l.drop (f.2 * m))).1, (takF fs (l.drop (f.2 * m))).2.1, rdN f.2 m l ++ (takF fs (l.drop (f.2 * m))).2.2)
  | 0, l, _ => by rw [Nat.mul_zero, List.drop_zero]; rfl
  | m + 1, l, h => by
    rw [Nat.mul_succ] at h
    rw [List.replicate_succ, List.cons_append]
    conv => lhs; unfold takF tk1
    rw [if_pos (by omega)]
    dsimp only
    rw [takF_rep f fs m (l.drop f.2) (by rw [List.length_drop]; omega), List.drop_drop, rdN_succ, Nat.mul_succ, Nat.add_comm f.2]
    rfl
theorem rdN_len (s m : Nat) (l : List Nat) : (rdN s m l).length = m := by simp [rdN]
theorem refD_tak : ∀ (ws : List RowT) (l : List Nat) (r : R), (∃ y l' r' l'' ns, refD set (fun _ => true) ws l r = (some y, l', r') ∧ takF (rows ws) l = (some y, l'', ns)) ∨ ∃ l' ns, takF (rows ws) l = (none, l', ns) ∧ refD set (fun _ => true) ws l r = (none, l', setAll set ws ns r)
  | [], l, r => .inr ⟨l, [], rfl, rfl⟩
  | w :: ws, l, r => by
    unfold refD
    rw [if_pos rfl]
    have er : rows (w :: ws) = List.replicate w.many (w.name, w.size) ++ rows ws := by simp [rows]
    rw [er]
    by_cases h : l.length < w.size * w.many
    · rw [if_pos h]
      obtain ⟨l', ns, e⟩ := takF_rep_no (w.name, w.size) (rows ws) w.many l h
      exact .inl ⟨_, _, _, l', ns, rfl, e⟩
    · rw [if_neg h, takF_rep (w.name, w.size) (rows ws) w.many l (by show w.size * w.many ≤ _; omega)]
      rcases refD_tak ws (l.drop (w.size * w.many)) (set r w (rdN w.size w.many l)) with ⟨y, l', r', l'', ns, e1, e2⟩ | ⟨l', ns, e1, e2⟩
      · exact .inl ⟨y, l', r', l'', _, e1, by dsimp only; rw [e2]⟩
      · refine .inr ⟨l', _, by dsimp only; rw [e1], ?_⟩
        rw [e2]
        dsimp only
        conv => rhs; unfold setAll
        rw [List.take_left' (rdN_len _ _ _), List.drop_left' (rdN_len _ _ _)]
theorem takF_len : ∀ (fs : List (ByteArray × Nat)) (l l' ns : List Nat), takF fs l = (none, l', ns) → ns.length = fs.length
  | [], l, l', ns, h => by
    simp only [takF, Prod.mk.injEq] at h
    rw [← h.2.2]; rfl
  | f :: fs, l, l', ns, h => by
    unfold takF at h
    rcases hq : tk1 f l with ⟨x, l1, n⟩
    rw [hq] at h
    rcases x with _ | y
    · rcases hr : takF fs l1 with ⟨x2, l2, ns2⟩
      dsimp only at h
      rw [hr] at h
      simp only [Prod.mk.injEq] at h
      obtain ⟨rfl, rfl, rfl⟩ := h
      rw [List.length_cons, List.length_cons, takF_len fs l1 l2 ns2 hr]
    · simp at h
end
end Go.Proofs.YtnaclkdjchnbpaaDoor
