/- The document's payload of a response, in plain Lean, and that the program's is the same; That the program's payload of a response is the document's. -/
import Derived.Test.YtnaclkdjchnbpaaDoorP5
import Derived.Test.YtnaclkdjchnbpaaDoorN3
namespace Go.Proofs.YtnaclkdjchnbpaaDoor
open Go Go.K

def tolds : List RowT := [⟨sToken, 8, 1, [48]⟩, ⟨sUnit, 1, 1, [50]⟩, ⟨sAt, 2, 2, [50]⟩, ⟨sNew, 4, 1, [50, 51]⟩, ⟨sExpl, 4, 1, [51, 54]⟩, ⟨sVer, 4, 1, [50, 51, 54]⟩, ⟨sHit, 1, 1, [52, 53]⟩, ⟨sCost, 8, 1, [52, 53]⟩, ⟨sSettled, 4, 1, [52, 53]⟩, ⟨sLeft, 4, 1, [52, 53, 54]⟩, ⟨sMoves, 4, 1, [52, 53]⟩, ⟨sUnits, 1, 1, [54]⟩, ⟨sCache, 1, 1, [54]⟩, ⟨sSess, 1, 1, [54]⟩]
def numsS (r : Rs) (m : Nat) (n : ByteArray) : List Nat :=
  if n = sToken then [r.tok] else if n = sUnit then [u64 r.unit] else if n = sAt then [u64 r.ax, u64 r.ay] else if n = sNew then [u64 r.new] else if n = sExpl then [u64 r.expl] else if n = sVer then [u64 r.ver] else if n = sHit then [bit r.hit] else if n = sCost then [r.cost]
  else if n = sSettled then [u64 r.settled] else if n = sLeft then [u64 r.left] else if n = sMoves then [m] else if n = sUnits then [u64 r.units] else if n = sCache then [u64 r.cache] else [u64 r.sess]
def bodyR (st op : Int) : Bool := decide (op ≤ 6) && (decide (st = 0) || ((decide (op = 4) || decide (op = 5)) && (decide (st = 22) || decide (st = 23))))
def opensE (st op : Int) : Int := if op < 0 ∨ (6 < op ∧ op ≠ 255) then 18 else if op = 255 ∧ st = 0 then 1 else 0
def refW (has : RowT → Bool) (nums : RowT → List Nat) (ms : List Nat) : List RowT → List Nat → Flt × List Nat
  | [], out => (none, out)
  | w :: ws, out => if has w then
      (if w.name = sMoves ∧ 65535 < ms.length then (some (sMoves, 12), [])
      else match layL w.size out (nums w) with
        | none => (some (w.name, 10), [])
        | some o => if w.name = sMoves then (if ms.all (fun m => decide (m ≤ 3)) then refW has nums ms ws (o ++ ms) else (some (sMoves, 10), [])) else refW has nums ms ws o)
    else refW has nums ms ws out
def hasS (r : Rs) (w : RowT) : Bool := bodyR r.st r.op && hasR w.ops r.op
def numsT (r : Rs) (ms : List Nat) (w : RowT) : List Nat := numsS r ms.length w.name
def rWri (r : Rs) (ms : List Nat) : Flt × List Nat :=
  if u64 r.st / 2 ^ (8 * 1) ≠ 0 then (some (sStat, 10), [])
  else if opensE r.st r.op ≠ 0 then (some (sOp, opensE r.st r.op), [])
  else fin (refW (hasS r) (numsT r ms) ms tolds (bes (u64 r.st) 1 1 ++ [(r.op % 256).toNat])) (refE2 (hasS r) (numsT r ms) tolds)
theorem refW_filter (has : RowT → Bool) (nums : RowT → List Nat) (ms : List Nat) : ∀ (ws : List RowT) (out : List Nat), refW has nums ms ws out = refW (fun _ => true) nums ms (ws.filter has) out
  | [], _ => rfl
  | w :: ws, out => by
    by_cases h : has w = true
    · rw [List.filter_cons, if_pos h, refW, refW, if_pos h, if_pos rfl]
      split
      · rfl
      · cases layL w.size out (nums w) with
        | none => rfl
        | some o =>
          dsimp only
          split
          · split
            · exact refW_filter has nums ms ws _
            · rfl
          · exact refW_filter has nums ms ws _
    · rw [List.filter_cons, if_neg h, refW, if_neg h]
      exact refW_filter has nums ms ws out
theorem refW_put (nums : RowT → List Nat) (ms : List Nat) : ∀ (ws : List RowT) (out : List Nat), (∀ w ∈ ws, w.name ≠ sMoves) → refW (fun _ => true) nums ms ws out = cutO (putF (ws.flatMap fun w => ent w (nums w)) (out, none))
  | [], _, _ => rfl
  | w :: ws, out, h => by
    have h1 := h w List.mem_cons_self
    rw [List.flatMap_cons, putF_append, refW, if_pos rfl, if_neg (fun e => h1 e.1)]
    rcases layL_put w (nums w) out with ⟨e1, o, e2⟩ | ⟨o, e1, e2⟩
    · rw [e1, e2, putF_some]; rfl
    · rw [e1, e2]
      dsimp only
      rw [if_neg h1]
      exact refW_put nums ms ws o (fun v hv => h v (List.mem_cons_of_mem _ hv))
theorem refW_append (nums : RowT → List Nat) (ms : List Nat) (v : RowT) : ∀ (ws : List RowT) (out : List Nat), (∀ w ∈ ws, w.name ≠ sMoves) → refW (fun _ => true) nums ms (ws ++ [v]) out = (match putF (ws.flatMap fun w => ent w (nums w)) (out, none) with
    | (_, some y) => (some y, [])
    | (o, none) => refW (fun _ => true) nums ms [v] o)
  | [], _, _ => rfl
  | w :: ws, out, h => by
    have h1 := h w List.mem_cons_self
    rw [List.flatMap_cons, putF_append, List.cons_append, refW, if_pos rfl, if_neg (fun e => h1 e.1)]
    rcases layL_put w (nums w) out with ⟨e1, o, e2⟩ | ⟨o, e1, e2⟩
    · rw [e1, e2, putF_some]
    · rw [e1, e2]
      dsimp only
      rw [if_neg h1]
      exact refW_append nums ms v ws o (fun v hv => h v (List.mem_cons_of_mem _ hv))
theorem refW_moves (nums : RowT → List Nat) (ms : List Nat) (v : RowT) (o : List Nat) (hv : v.name = sMoves) (hs : v.size = 4) (hn : nums v = [ms.length]) : refW (fun _ => true) nums ms [v] o = cutO (movF (o, none) sMoves ms) := by
  rw [refW, if_pos rfl, hv, hs, hn]
  unfold movF
  by_cases hb : 65535 < ms.length
  · rw [if_pos ⟨rfl, hb⟩, if_pos hb]
    rfl
  · rw [if_neg (fun h => hb h.2), if_neg hb]
    unfold layL putF1
    dsimp only
    by_cases h0 : ms.length / 2 ^ (8 * 4) = 0
    · rw [if_pos h0, if_pos h0]
      dsimp only [layL]
      rw [if_pos rfl]
      by_cases h3 : ms.all (fun m => decide (m ≤ 3)) = true
      · rw [if_pos h3, if_pos h3]; rfl
      · rw [if_neg h3, if_neg h3]; rfl
    · rw [if_neg h0, if_neg h0]; rfl
theorem ns_tok (r : Rs) (m : Nat) : numsS r m sToken = [r.tok] := by unfold numsS; rw [if_pos rfl]
theorem ns_1 (r : Rs) (m : Nat) : numsS r m sUnit = [u64 r.unit] := by unfold numsS; rw [if_neg (by decide), if_pos rfl]
theorem ns_2 (r : Rs) (m : Nat) : numsS r m sAt = [u64 r.ax, u64 r.ay] := by unfold numsS; rw [if_neg (by decide), if_neg (by decide), if_pos rfl]
theorem ns_3 (r : Rs) (m : Nat) : numsS r m sNew = [u64 r.new] := by unfold numsS; rw [if_neg (by decide), if_neg (by decide), if_neg (by decide), if_pos rfl]
theorem ns_4 (r : Rs) (m : Nat) : numsS r m sExpl = [u64 r.expl] := by unfold numsS; rw [if_neg (by decide), if_neg (by decide), if_neg (by decide), if_neg (by decide), if_pos rfl]
theorem ns_5 (r : Rs) (m : Nat) : numsS r m sVer = [u64 r.ver] := by unfold numsS; rw [if_neg (by decide), if_neg (by decide), if_neg (by decide), if_neg (by decide), if_neg (by decide), if_pos rfl]
theorem ns_6 (r : Rs) (m : Nat) : numsS r m sHit = [bit r.hit] := by unfold numsS; rw [if_neg (by decide), if_neg (by decide), if_neg (by decide), if_neg (by decide), if_neg (by decide), if_neg (by decide), if_pos rfl]
theorem ns_7 (r : Rs) (m : Nat) : numsS r m sCost = [r.cost] := by unfold numsS; rw [if_neg (by decide), if_neg (by decide), if_neg (by decide), if_neg (by decide), if_neg (by decide), if_neg (by decide), if_neg (by decide), if_pos rfl]
theorem ns_8 (r : Rs) (m : Nat) : numsS r m sSettled = [u64 r.settled] := by unfold numsS; rw [if_neg (by decide), if_neg (by decide), if_neg (by decide), if_neg (by decide), if_neg (by decide), if_neg (by decide), if_neg (by decide), if_neg (by decide), if_pos rfl]
theorem ns_9 (r : Rs) (m : Nat) : numsS r m sLeft = [u64 r.left] := by unfold numsS; rw [if_neg (by decide), if_neg (by decide), if_neg (by decide), if_neg (by decide), if_neg (by decide), if_neg (by decide), if_neg (by decide), if_neg (by decide), if_neg (by decide), if_pos rfl]
theorem ns_10 (r : Rs) (m : Nat) : numsS r m sMoves = [m] := by unfold numsS; rw [if_neg (by decide), if_neg (by decide), if_neg (by decide), if_neg (by decide), if_neg (by decide), if_neg (by decide), if_neg (by decide), if_neg (by decide), if_neg (by decide), if_neg (by decide), if_pos rfl]
theorem ns_11 (r : Rs) (m : Nat) : numsS r m sUnits = [u64 r.units] := by unfold numsS; rw [if_neg (by decide), if_neg (by decide), if_neg (by decide), if_neg (by decide), if_neg (by decide), if_neg (by decide), if_neg (by decide), if_neg (by decide), if_neg (by decide), if_neg (by decide), if_neg (by decide), if_pos rfl]
theorem ns_12 (r : Rs) (m : Nat) : numsS r m sCache = [u64 r.cache] := by unfold numsS; rw [if_neg (by decide), if_neg (by decide), if_neg (by decide), if_neg (by decide), if_neg (by decide), if_neg (by decide), if_neg (by decide), if_neg (by decide), if_neg (by decide), if_neg (by decide), if_neg (by decide), if_neg (by decide), if_pos rfl]
theorem ns_13 (r : Rs) (m : Nat) : numsS r m sSess = [u64 r.sess] := by unfold numsS; rw [if_neg (by decide), if_neg (by decide), if_neg (by decide), if_neg (by decide), if_neg (by decide), if_neg (by decide), if_neg (by decide), if_neg (by decide), if_neg (by decide), if_neg (by decide), if_neg (by decide), if_neg (by decide), if_neg (by decide)]
theorem movF_some (o : List Nat) (y : ByteArray × Int) (name : ByteArray) (ms : List Nat) : movF (o, some y) name ms = (o, some y) := by
  unfold movF
  split <;> rfl
theorem told_mv (r : Rs) (ms : List Nat) (o : List Nat) : cutO (movF (putF1 (putF1 (putF1 (putF1 (o, none) (sHit, 1, bit r.hit)) (sCost, 8, r.cost)) (sSettled, 4, u64 r.settled)) (sLeft, 4, u64 r.left)) sMoves ms) = (match putF (([⟨sHit, 1, 1, [52, 53]⟩, ⟨sCost, 8, 1, [52, 53]⟩, ⟨sSettled, 4, 1, [52, 53]⟩, ⟨sLeft, 4, 1, [52, 53, 54]⟩] : List RowT).flatMap fun w => ent w (numsT r ms w)) (o, none) with
    | (_, some y) => (some y, [])
    | (o, none) => refW (fun _ => true) (numsT r ms) ms [⟨sMoves, 4, 1, [52, 53]⟩] o) := by
  have e : putF (([⟨sHit, 1, 1, [52, 53]⟩, ⟨sCost, 8, 1, [52, 53]⟩, ⟨sSettled, 4, 1, [52, 53]⟩, ⟨sLeft, 4, 1, [52, 53, 54]⟩] : List RowT).flatMap fun w => ent w (numsT r ms w)) (o, none) = putF1 (putF1 (putF1 (putF1 (o, none) (sHit, 1, bit r.hit)) (sCost, 8, r.cost)) (sSettled, 4, u64 r.settled)) (sLeft, 4, u64 r.left) := by
    simp only [List.flatMap_cons, List.flatMap_nil, ent, numsT, ns_6, ns_7, ns_8, ns_9, List.map_cons, List.map_nil, List.append_nil, List.cons_append, List.nil_append, putF, List.foldl_cons, List.foldl_nil]
  rw [e]
  rcases putF1 (putF1 (putF1 (putF1 (o, none) (sHit, 1, bit r.hit)) (sCost, 8, r.cost)) (sSettled, 4, u64 r.settled)) (sLeft, 4, u64 r.left) with ⟨o2, x⟩
  rcases x with _ | y
  · exact (refW_moves _ ms _ o2 rfl rfl (by simp only [numsT, ns_10])).symm
  · rw [movF_some]; rfl
theorem bodyB_R {st op : Int} (h : opensE st op = 0) : bodyR st op = bodyB op st := by
  unfold opensE at h
  split at h
  · cases h
  · split at h
    · cases h
    · rename_i h1 h2
      unfold bodyR bodyB
      rw [Bool.eq_iff_iff]
      simp
      omega
theorem told_same (r : Rs) (ms : List Nat) (ho : opensE r.st r.op = 0) (hb : bodyR r.st r.op = true) (o : List Nat) : cutO (tellF r ms (o, none)) = refW (hasS r) (numsT r ms) ms tolds o := by
  have h06 : r.op = 0 ∨ r.op = 1 ∨ r.op = 2 ∨ r.op = 3 ∨ r.op = 4 ∨ r.op = 5 ∨ r.op = 6 := by
    have h1 : r.op ≤ 6 := by unfold bodyR at hb; simp at hb; exact hb.1
    have h2 : ¬ r.op < 0 := by intro h; unfold opensE at ho; rw [if_pos (.inl h)] at ho; cases ho
    omega
  rw [refW_filter]
  have hf : tolds.filter (hasS r) = tolds.filter (hasO r.op) := by
    apply List.filter_congr
    intro w _
    show (bodyR r.st r.op && hasR w.ops r.op) = hasR w.ops r.op
    rw [hb]; rfl
  rw [hf]
  unfold tellF
  rcases h06 with h | h | h | h | h | h | h <;> rw [h]
  · rw [if_pos rfl, show tolds.filter (hasO 0) = [⟨sToken, 8, 1, [48]⟩] from rfl, refW_put _ _ _ _ (by decide)]
    simp only [List.flatMap_cons, List.flatMap_nil, ent, numsT, ns_tok, List.map_cons, List.map_nil, List.append_nil, putF, List.foldl_cons, List.foldl_nil]
  · rw [show tolds.filter (hasO 1) = [] from rfl]
    rfl
  · rw [if_neg (by decide), if_pos rfl, show tolds.filter (hasO 2) = [⟨sUnit, 1, 1, [50]⟩, ⟨sAt, 2, 2, [50]⟩, ⟨sNew, 4, 1, [50, 51]⟩, ⟨sVer, 4, 1, [50, 51, 54]⟩] from rfl, refW_put _ _ _ _ (by decide)]
    simp only [List.flatMap_cons, List.flatMap_nil, ent, numsT, ns_1, ns_2, ns_3, ns_5, List.map_cons, List.map_nil, List.append_nil, List.cons_append, List.nil_append, putF, List.foldl_cons, List.foldl_nil]
  · rw [if_neg (by decide), if_neg (by decide), if_pos rfl, show tolds.filter (hasO 3) = [⟨sNew, 4, 1, [50, 51]⟩, ⟨sExpl, 4, 1, [51, 54]⟩, ⟨sVer, 4, 1, [50, 51, 54]⟩] from rfl, refW_put _ _ _ _ (by decide)]
    simp only [List.flatMap_cons, List.flatMap_nil, ent, numsT, ns_3, ns_4, ns_5, List.map_cons, List.map_nil, List.append_nil, List.cons_append, List.nil_append, putF, List.foldl_cons, List.foldl_nil]
  · rw [if_neg (by decide), if_neg (by decide), if_neg (by decide), if_pos (.inl rfl), show tolds.filter (hasO 4) = [⟨sHit, 1, 1, [52, 53]⟩, ⟨sCost, 8, 1, [52, 53]⟩, ⟨sSettled, 4, 1, [52, 53]⟩, ⟨sLeft, 4, 1, [52, 53, 54]⟩] ++ [⟨sMoves, 4, 1, [52, 53]⟩] from rfl, refW_append _ _ _ _ _ (by decide)]
    exact told_mv r ms o
  · rw [if_neg (by decide), if_neg (by decide), if_neg (by decide), if_pos (.inr rfl), show tolds.filter (hasO 5) = [⟨sHit, 1, 1, [52, 53]⟩, ⟨sCost, 8, 1, [52, 53]⟩, ⟨sSettled, 4, 1, [52, 53]⟩, ⟨sLeft, 4, 1, [52, 53, 54]⟩] ++ [⟨sMoves, 4, 1, [52, 53]⟩] from rfl, refW_append _ _ _ _ _ (by decide)]
    exact told_mv r ms o
  · rw [if_neg (by decide), if_neg (by decide), if_neg (by decide), if_neg (by decide), if_pos rfl, show tolds.filter (hasO 6) = [⟨sExpl, 4, 1, [51, 54]⟩, ⟨sVer, 4, 1, [50, 51, 54]⟩, ⟨sLeft, 4, 1, [52, 53, 54]⟩, ⟨sUnits, 1, 1, [54]⟩, ⟨sCache, 1, 1, [54]⟩, ⟨sSess, 1, 1, [54]⟩] from rfl, refW_put _ _ _ _ (by decide)]
    simp only [List.flatMap_cons, List.flatMap_nil, ent, numsT, ns_4, ns_5, ns_9, ns_11, ns_12, ns_13, List.map_cons, List.map_nil, List.append_nil, List.cons_append, List.nil_append, putF, List.foldl_cons, List.foldl_nil]

theorem bit_zero (b : Bool) : (bit b = 0) ↔ b = false := by cases b <;> simp [bit]
theorem nought_nil (l : List Nat) : nought l = true ↔ ∀ x ∈ l, x = 0 := by
  unfold nought
  simp
set_option maxHeartbeats 8000000 in
theorem leftS_iff (r : Rs) (ms : List Nat) (hr : r.Ok) (ho : opensE r.st r.op = 0) : refE2 (hasS r) (numsT r ms) tolds = leftS r ms := by
  have z1 := u64_zero hr.unit
  have z2 := u64_zero hr.ax
  have z3 := u64_zero hr.ay
  have z4 := u64_zero hr.new
  have z5 := u64_zero hr.expl
  have z6 := u64_zero hr.ver
  have z7 := u64_zero hr.settled
  have z8 := u64_zero hr.left
  have z9 := u64_zero hr.units
  have zA := u64_zero hr.cache
  have zB := u64_zero hr.sess
  have zC := bit_zero r.hit
  have hbb := bodyB_R ho
  have hz : zR.st = 0 ∧ zR.op = 0 := ⟨rfl, rfl⟩
  have hsp : ∀ w, hasS r w = (bodyR r.st r.op && hasR w.ops r.op) := fun _ => rfl
  unfold leftS refE2 spareM spareR Rs.eqB
  rw [← hbb]
  rcases hb : bodyR r.st r.op with _ | _
  · simp only [hsp, hb, tolds, List.any_cons, List.any_nil, numsT, noughts, ns_tok, ns_1, ns_2, ns_3, ns_4, ns_5, ns_6, ns_7, ns_8, ns_9, ns_10, ns_11, ns_12, ns_13]
    rw [Bool.eq_iff_iff]
    simp [zR, z1, z2, z3, z4, z5, z6, z7, z8, z9, zA, zB, zC, Bool.and_eq_false_iff]
    simp only [or_assoc, or_comm, or_left_comm]
  · have h06 : r.op = 0 ∨ r.op = 1 ∨ r.op = 2 ∨ r.op = 3 ∨ r.op = 4 ∨ r.op = 5 ∨ r.op = 6 := by
      have h1 : r.op ≤ 6 := by unfold bodyR at hb; simp at hb; exact hb.1
      have h2 : ¬ r.op < 0 := by intro h; unfold opensE at ho; rw [if_pos (.inl h)] at ho; cases ho
      omega
    simp only [hsp, hb, tolds, List.any_cons, List.any_nil, numsT, noughts, ns_tok, ns_1, ns_2, ns_3, ns_4, ns_5, ns_6, ns_7, ns_8, ns_9, ns_10, ns_11, ns_12, ns_13]
    rw [Bool.eq_iff_iff]
    rcases h06 with h | h | h | h | h | h | h <;> rw [h] <;> simp [hasR, zR, z1, z2, z3, z4, z5, z6, z7, z8, z9, zA, zB, zC, Bool.and_eq_false_iff]
    all_goals simp only [or_assoc, or_comm, or_left_comm]
theorem wri_same (r : Rs) (ms : List Nat) (hr : r.Ok) : wri r ms = rWri r ms := by
  unfold wri rWri toldF
  dsimp only
  by_cases h1 : u64 r.st / 2 ^ (8 * 1) = 0
  · rw [if_neg (show ¬ (u64 r.st / 2 ^ (8 * 1) ≠ 0) from fun h => h h1)]
    have e1 : putF1 ([], none) (sStat, 1, u64 r.st) = (bes (u64 r.st) 1 1, none) := by
      unfold putF1
      dsimp only
      rw [if_pos h1]; rfl
    rw [e1]
    dsimp only
    by_cases h2 : r.op < 0 ∨ 255 < r.op
    · have e2 : opensE r.st r.op = 18 := by unfold opensE; rw [if_pos (by omega)]
      rw [if_pos h2, e2, if_pos (by decide)]
      rfl
    · rw [if_neg h2]
      have hu : u64 r.op = (r.op % 256).toNat := by unfold u64; omega
      have hlt : u64 r.op / 2 ^ (8 * 1) = 0 := by unfold u64; omega
      have e3 : putF1 (bes (u64 r.st) 1 1, none) (sOp, 1, u64 r.op) = (bes (u64 r.st) 1 1 ++ [(r.op % 256).toNat], none) := by
        unfold putF1
        dsimp only
        rw [if_pos hlt, show bes (u64 r.op) 1 1 = [u64 r.op] from bes1 (by unfold u64; omega), hu]
      rw [e3]
      unfold toldF2
      dsimp only
      by_cases h3 : 7 ≤ r.op ∧ r.op ≠ 255
      · have e2 : opensE r.st r.op = 18 := by unfold opensE; rw [if_pos (by omega)]
        rw [if_pos h3, e2, if_pos (by decide)]
        rfl
      · rw [if_neg h3]
        by_cases h4 : r.op = 255 ∧ r.st = 0
        · have e2 : opensE r.st r.op = 1 := by unfold opensE; rw [if_neg (by omega), if_pos h4]
          rw [if_pos h4, e2, if_pos (by decide)]
          rfl
        · have e2 : opensE r.st r.op = 0 := by unfold opensE; rw [if_neg (by omega), if_neg h4]
          rw [if_neg h4, e2, if_neg (show ¬ ((0 : Int) ≠ 0) by decide), leftS_iff r ms hr e2]
          rcases hb : bodyR r.st r.op with _ | _
          · rw [← bodyB_R e2, hb, if_neg Bool.false_ne_true]
            have e5 : refW (hasS r) (numsT r ms) ms tolds (bes (u64 r.st) 1 1 ++ [(r.op % 256).toNat]) = (none, bes (u64 r.st) 1 1 ++ [(r.op % 256).toNat]) := by
              rw [refW_filter]
              have : tolds.filter (hasS r) = [] := by
                rw [List.filter_eq_nil_iff]
                intro w _
                unfold hasS
                rw [hb]; simp
              rw [this]; rfl
            rw [e5]
            rfl
          · rw [← bodyB_R e2, hb, if_pos rfl, ← told_same r ms e2 hb]
  · rw [if_pos (show u64 r.st / 2 ^ (8 * 1) ≠ 0 from h1)]
    have e1 : putF1 ([], none) (sStat, 1, u64 r.st) = ([], some (sStat, 10)) := by
      unfold putF1
      dsimp only
      rw [if_neg h1]
    rw [e1]
    have e2 : (if r.op < 0 ∨ 255 < r.op then note (some (sStat, 10)) sOp 18 else some (sStat, 10)) = some (sStat, 10) := by split <;> rfl
    dsimp only
    rw [e2]
    rfl
end Go.Proofs.YtnaclkdjchnbpaaDoor
