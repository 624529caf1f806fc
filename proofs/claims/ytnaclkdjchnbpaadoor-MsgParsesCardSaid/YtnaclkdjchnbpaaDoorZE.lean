/- Part 5 of the texts: The document's payload of a response, in plain Lean, and tha; The document's rows of responses, walked; msg.form that takes: a word, a number, a cell, a flag; The document's response of a payload, row by row; what its s; The program logic, twenty-first part: a statement whose orde; The program logic, twenty-third part: statements whose order -/
import Derived.Test.YtnaclkdjchnbpaaDoorZD
section
namespace Go.Proofs.YtnaclkdjchnbpaaDoor
open Go Go.K

def tolds : List RowT := [⟨sToken, 8, 1, [48]⟩, ⟨sUnit, 1, 1, [50]⟩, ⟨sAt, 2, 2, [50]⟩, ⟨sNew, 4, 1, [50, 51]⟩, ⟨sExpl, 4, 1, [51, 54]⟩, ⟨sVer, 4, 1, [50, 51, 54]⟩, ⟨sHit, 1, 1, [52, 53]⟩, ⟨sCost, 8, 1, [52, 53]⟩, ⟨sSettled, 4, 1, [52, 53]⟩, ⟨sLeft, 4, 1, [52, 53, 54]⟩, ⟨sMoves, 4, 1, [52, 53]⟩, ⟨sUnits, 1, 1, [54]⟩, ⟨sCache, 1, 1, [54]⟩, ⟨sSess, 1, 1, [54]⟩]
def numsS (r : Rs) (m : Nat) (n : ByteArray) : List Nat :=
  if n = sToken then [r.tok] else if n = sUnit then [u64 r.unit] else if n = sAt then [u64 r.ax, u64 r.ay] else if n = sNew then [u64 r.new] else if n = sExpl then [u64 r.expl] else if n = sVer then [u64 r.ver] else if n = sHit then [bit r.hit] else if n = sCost then [r.cost]
  else if n = sSettled then [u64 r.settled] else if n = sLeft then [u64 r.left] else if n = sMoves then [m] else if n = sUnits then [u64 r.units] else if n = sCache then [u64 r.cache] else [u64 r.sess]
def bodyR (st op : Int) : Bool := decide (op ≤ 6) && (decide (st = 0) || ((decide (op = 4) || decide (op = 5)) && (decide (st = 22) || decide (st = 23))))
def opensE (st op : Int) : Int := if op < 0 ∨ (6 < op ∧ op ≠ 255) then 18 else if op = 255 ∧ st = 0 then 1 else 0
def refW (has : RowT → Bool) (nums : RowT → List Nat) (ms : List Nat) : List RowT → List Nat → Flt × List Nat
  | [], out => (none, out)
  | w :: ws, out => if has w then
      (if w.name = sMoves ∧ 65535 < ms.length then (some (sMoves, 12), [])
      else match layL w.size out (nums w) with
        | none => (some (w.name, 10), [])
        | some o => if w.name = sMoves then (if ms.all (fun m => decide (m ≤ 3)) then refW has nums ms ws (o ++ ms) else (some (sMoves, 10), [])) else refW has nums ms ws o)
    else refW has nums ms ws out
def hasS (r : Rs) (w : RowT) : Bool := bodyR r.st r.op && hasR w.ops r.op
def numsT (r : Rs) (ms : List Nat) (w : RowT) : List Nat := numsS r ms.length w.name
def rWri (r : Rs) (ms : List Nat) : Flt × List Nat :=
  if u64 r.st / 2 ^ (8 * 1) ≠ 0 then (some (sStat, 10), [])
  else if opensE r.st r.op ≠ 0 then (some (sOp, opensE r.st r.op), [])
  else fin (refW (hasS r) (numsT r ms) ms tolds (bes (u64 r.st) 1 1 ++ [(r.op % 256).toNat])) (refE2 (hasS r) (numsT r ms) tolds)
theorem refW_filter (has : RowT → Bool) (nums : RowT → List Nat) (ms : List Nat) : ∀ (ws : List RowT) (out : List Nat), refW has nums ms ws out = refW (fun _ => true) nums ms (ws.filter has) out
  | [], _ => rfl
  | w :: ws, out => by
    by_cases h : has w = true
    · rw [List.filter_cons, if_pos h, refW, refW, if_pos h, if_pos rfl]
      split
      · rfl
      · cases layL w.size out (nums w) with
        | none => rfl
        | some o =>
          dsimp only
          split
          · split
            · exact refW_filter has nums ms ws _
            · rfl
          · exact refW_filter has nums ms ws _
    · rw [List.filter_cons, if_neg h, refW, if_neg h]
      exact refW_filter has nums ms ws out
theorem refW_put (nums : RowT → List Nat) (ms : List Nat) : ∀ (ws : List RowT) (out : List Nat), (∀ w ∈ ws, w.name ≠ sMoves) → refW (fun _ => true) nums ms ws out = cutO (putF (ws.flatMap fun w => ent w (nums w)) (out, none))
  | [], _, _ => rfl
  | w :: ws, out, h => by
    have h1 := h w List.mem_cons_self
    rw [List.flatMap_cons, putF_append, refW, if_pos rfl, if_neg (fun e => h1 e.1)]
    rcases layL_put w (nums w) out with ⟨e1, o, e2⟩ | ⟨o, e1, e2⟩
    · rw [e1, e2, putF_some]; rfl
    · rw [e1, e2]
      dsimp only
      rw [if_neg h1]
      exact refW_put nums ms ws o (fun v hv => h v (List.mem_cons_of_mem _ hv))
theorem refW_append (nums : RowT → List Nat) (ms : List Nat) (v : RowT) : ∀ (ws : List RowT) (out : List Nat), (∀ w ∈ ws, w.name ≠ sMoves) → refW (fun _ => true) nums ms (ws ++ [v]) out = (match putF (ws.flatMap fun w => ent w (nums w)) (out, none) with
    | (_, some y) => (some y, [])
    | (o, none) => refW (fun _ => true) nums ms [v] o)
  | [], _, _ => rfl
  | w :: ws, out, h => by
    have h1 := h w List.mem_cons_self
    rw [List.flatMap_cons, putF_append, List.cons_append, refW, if_pos rfl, if_neg (fun e => h1 e.1)]
    rcases layL_put w (nums w) out with ⟨e1, o, e2⟩ | ⟨o, e1, e2⟩
    · rw [e1, e2, putF_some]
    · rw [e1, e2]
      dsimp only
      rw [if_neg h1]
      exact refW_append nums ms v ws o (fun v hv => h v (List.mem_cons_of_mem _ hv))
theorem refW_moves (nums : RowT → List Nat) (ms : List Nat) (v : RowT) (o : List Nat) (hv : v.name = sMoves) (hs : v.size = 4) (hn : nums v = [ms.length]) : refW (fun _ => true) nums ms [v] o = cutO (movF (o, none) sMoves ms) := by
  rw [refW, if_pos rfl, hv, hs, hn]
  unfold movF
  by_cases hb : 65535 < ms.length
  · rw [if_pos ⟨rfl, hb⟩, if_pos hb]
    rfl
  · rw [if_neg (fun h => hb h.2), if_neg hb]
    unfold layL putF1
    dsimp only
    by_cases h0 : ms.length / 2 ^ (8 * 4) = 0
    · rw [if_pos h0, if_pos h0]
      dsimp only [layL]
      rw [if_pos rfl]
      by_cases h3 : ms.all (fun m => decide (m ≤ 3)) = true
      · rw [if_pos h3, if_pos h3]; rfl
      · rw [if_neg h3, if_neg h3]; rfl
    · rw [if_neg h0, if_neg h0]; rfl
theorem ns_tok (r : Rs) (m : Nat) : numsS r m sToken = [r.tok] := by unfold numsS; rw [if_pos rfl]
theorem ns_1 (r : Rs) (m : Nat) : numsS r m sUnit = [u64 r.unit] := by unfold numsS; rw [if_neg (by decide), if_pos rfl]
theorem ns_2 (r : Rs) (m : Nat) : numsS r m sAt = [u64 r.ax, u64 r.ay] := by unfold numsS; rw [if_neg (by decide), if_neg (by decide), if_pos rfl]
theorem ns_3 (r : Rs) (m : Nat) : numsS r m sNew = [u64 r.new] := by unfold numsS; rw [if_neg (by decide), if_neg (by decide), if_neg (by decide), if_pos rfl]
theorem ns_4 (r : Rs) (m : Nat) : numsS r m sExpl = [u64 r.expl] := by unfold numsS; rw [if_neg (by decide), if_neg (by decide), if_neg (by decide), if_neg (by decide), if_pos rfl]
theorem ns_5 (r : Rs) (m : Nat) : numsS r m sVer = [u64 r.ver] := by unfold numsS; rw [if_neg (by decide), if_neg (by decide), if_neg (by decide), if_neg (by decide), if_neg (by decide), if_pos rfl]
theorem ns_6 (r : Rs) (m : Nat) : numsS r m sHit = [bit r.hit] := by unfold numsS; rw [if_neg (by decide), if_neg (by decide), if_neg (by decide), if_neg (by decide), if_neg (by decide), if_neg (by decide), if_pos rfl]
theorem ns_7 (r : Rs) (m : Nat) : numsS r m sCost = [r.cost] := by unfold numsS; rw [if_neg (by decide), if_neg (by decide), if_neg (by decide), if_neg (by decide), if_neg (by decide), if_neg (by decide), if_neg (by decide), if_pos rfl]
theorem ns_8 (r : Rs) (m : Nat) : numsS r m sSettled = [u64 r.settled] := by unfold numsS; rw [if_neg (by decide), if_neg (by decide), if_neg (by decide), if_neg (by decide), if_neg (by decide), if_neg (by decide), if_neg (by decide), if_neg (by decide), if_pos rfl]
theorem ns_9 (r : Rs) (m : Nat) : numsS r m sLeft = [u64 r.left] := by unfold numsS; rw [if_neg (by decide), if_neg (by decide), if_neg (by decide), if_neg (by decide), if_neg (by decide), if_neg (by decide), if_neg (by decide), if_neg (by decide), if_neg (by decide), if_pos rfl]
theorem ns_10 (r : Rs) (m : Nat) : numsS r m sMoves = [m] := by unfold numsS; rw [if_neg (by decide), if_neg (by decide), if_neg (by decide), if_neg (by decide), if_neg (by decide), if_neg (by decide), if_neg (by decide), if_neg (by decide), if_neg (by decide), if_neg (by decide), if_pos rfl]
theorem ns_11 (r : Rs) (m : Nat) : numsS r m sUnits = [u64 r.units] := by unfold numsS; rw [if_neg (by decide), if_neg (by decide), if_neg (by decide), if_neg (by decide), if_neg (by decide), if_neg (by decide), if_neg (by decide), if_neg (by decide), if_neg (by decide), if_neg (by decide), if_neg (by decide), if_pos rfl]
theorem ns_12 (r : Rs) (m : Nat) : numsS r m sCache = [u64 r.cache] := by unfold numsS; rw [if_neg (by decide), if_neg (by decide), if_neg (by decide), if_neg (by decide), if_neg (by decide), if_neg (by decide), if_neg (by decide), if_neg (by decide), if_neg (by decide), if_neg (by decide), if_neg (by decide), if_neg (by decide), if_pos rfl]
theorem ns_13 (r : Rs) (m : Nat) : numsS r m sSess = [u64 r.sess] := by unfold numsS; rw [if_neg (by decide), if_neg (by decide), if_neg (by decide), if_neg (by decide), if_neg (by decide), if_neg (by decide), if_neg (by decide), if_neg (by decide), if_neg (by decide), if_neg (by decide), if_neg (by decide), if_neg (by decide), if_neg (by decide)]
theorem movF_some (o : List Nat) (y : ByteArray × Int) (name : ByteArray) (ms : List Nat) : movF (o, some y) name ms = (o, some y) := by
  unfold movF
  split <;> rfl
theorem told_mv (r : Rs) (ms : List Nat) (o : List Nat) : cutO (movF (putF1 (putF1 (putF1 (putF1 (o, none) (sHit, 1, bit r.hit)) (sCost, 8, r.cost)) (sSettled, 4, u64 r.settled)) (sLeft, 4, u64 r.left)) sMoves ms) = (match putF (([⟨sHit, 1, 1, [52, 53]⟩, ⟨sCost, 8, 1, [52, 53]⟩, ⟨sSettled, 4, 1, [52, 53]⟩, ⟨sLeft, 4, 1, [52, 53, 54]⟩] : List RowT).flatMap fun w => ent w (numsT r ms w)) (o, none) with
    | (_, some y) => (some y, [])
    | (o, none) => refW (fun _ => true) (numsT r ms) ms [⟨sMoves, 4, 1, [52, 53]⟩] o) := by
  have e : putF (([⟨sHit, 1, 1, [52, 53]⟩, ⟨sCost, 8, 1, [52, 53]⟩, ⟨sSettled, 4, 1, [52, 53]⟩, ⟨sLeft, 4, 1, [52, 53, 54]⟩] : List RowT).flatMap fun w => ent w (numsT r ms w)) (o, none) = putF1 (putF1 (putF1 (putF1 (o, none) (sHit, 1, bit r.hit)) (sCost, 8, r.cost)) (sSettled, 4, u64 r.settled)) (sLeft, 4, u64 r.left) := by
    simp only [List.flatMap_cons, List.flatMap_nil, ent, numsT, ns_6, ns_7, ns_8, ns_9, List.map_cons, List.map_nil, List.append_nil, List.cons_append, List.nil_append, putF, List.foldl_cons, List.foldl_nil]
  rw [e]
  rcases putF1 (putF1 (putF1 (putF1 (o, none) (sHit, 1, bit r.hit)) (sCost, 8, r.cost)) (sSettled, 4, u64 r.settled)) (sLeft, 4, u64 r.left) with ⟨o2, x⟩
  rcases x with _ | y
  · exact (refW_moves _ ms _ o2 rfl rfl (by simp only [numsT, ns_10])).symm
  · rw [movF_some]; rfl
theorem bodyB_R {st op : Int} (h : opensE st op = 0) : bodyR st op = bodyB op st := by
  unfold opensE at h
  split at h
  · cases h
  · split at h
    · cases h
    · rename_i h1 h2
      unfold bodyR bodyB
      rw [Bool.eq_iff_iff]
      simp
      omega
theorem told_same (r : Rs) (ms : List Nat) (ho : opensE r.st r.op = 0) (hb : bodyR r.st r.op = true) (o : List Nat) : cutO (tellF r ms (o, none)) = refW (hasS r) (numsT r ms) ms tolds o := by
  have h06 : r.op = 0 ∨ r.op = 1 ∨ r.op = 2 ∨ r.op = 3 ∨ r.op = 4 ∨ r.op = 5 ∨ r.op = 6 := by
    have h1 : r.op ≤ 6 := by unfold bodyR at hb; simp at hb; exact hb.1
    have h2 : ¬ r.op < 0 := by intro h; unfold opensE at ho; rw [if_pos (.inl h)] at ho; cases ho
    omega
  rw [refW_filter]
  have hf : tolds.filter (hasS r) = tolds.filter (hasO r.op) := by
    apply List.filter_congr
    intro w _
    show (bodyR r.st r.op && hasR w.ops r.op) = hasR w.ops r.op
    rw [hb]; try rfl
  rw [hf]
  unfold tellF
  rcases h06 with h | h | h | h | h | h | h <;> rw [h]
  · rw [if_pos rfl, show tolds.filter (hasO 0) = [⟨sToken, 8, 1, [48]⟩] from rfl, refW_put _ _ _ _ (by decide)]
    simp only [List.flatMap_cons, List.flatMap_nil, ent, numsT, ns_tok, List.map_cons, List.map_nil, List.append_nil, putF, List.foldl_cons, List.foldl_nil]
  · rw [show tolds.filter (hasO 1) = [] from rfl]
    rfl
  · rw [if_neg (by decide), if_pos rfl, show tolds.filter (hasO 2) = [⟨sUnit, 1, 1, [50]⟩, ⟨sAt, 2, 2, [50]⟩, ⟨sNew, 4, 1, [50, 51]⟩, ⟨sVer, 4, 1, [50, 51, 54]⟩] from rfl, refW_put _ _ _ _ (by decide)]
    simp only [List.flatMap_cons, List.flatMap_nil, ent, numsT, ns_1, ns_2, ns_3, ns_5, List.map_cons, List.map_nil, List.append_nil, List.cons_append, List.nil_append, putF, List.foldl_cons, List.foldl_nil]
  · rw [if_neg (by decide), if_neg (by decide), if_pos rfl, show tolds.filter (hasO 3) = [⟨sNew, 4, 1, [50, 51]⟩, ⟨sExpl, 4, 1, [51, 54]⟩, ⟨sVer, 4, 1, [50, 51, 54]⟩] from rfl, refW_put _ _ _ _ (by decide)]
    simp only [List.flatMap_cons, List.flatMap_nil, ent, numsT, ns_3, ns_4, ns_5, List.map_cons, List.map_nil, List.append_nil, List.cons_append, List.nil_append, putF, List.foldl_cons, List.foldl_nil]
  · rw [if_neg (by decide), if_neg (by decide), if_neg (by decide), if_pos (.inl rfl), show tolds.filter (hasO 4) = [⟨sHit, 1, 1, [52, 53]⟩, ⟨sCost, 8, 1, [52, 53]⟩, ⟨sSettled, 4, 1, [52, 53]⟩, ⟨sLeft, 4, 1, [52, 53, 54]⟩] ++ [⟨sMoves, 4, 1, [52, 53]⟩] from rfl, refW_append _ _ _ _ _ (by decide)]
    exact told_mv r ms o
  · rw [if_neg (by decide), if_neg (by decide), if_neg (by decide), if_pos (.inr rfl), show tolds.filter (hasO 5) = [⟨sHit, 1, 1, [52, 53]⟩, ⟨sCost, 8, 1, [52, 53]⟩, ⟨sSettled, 4, 1, [52, 53]⟩, ⟨sLeft, 4, 1, [52, 53, 54]⟩] ++ [⟨sMoves, 4, 1, [52, 53]⟩] from rfl, refW_append _ _ _ _ _ (by decide)]
    exact told_mv r ms o
  · rw [if_neg (by decide), if_neg (by decide), if_neg (by decide), if_neg (by decide), if_pos rfl, show tolds.filter (hasO 6) = [⟨sExpl, 4, 1, [51, 54]⟩, ⟨sVer, 4, 1, [50, 51, 54]⟩, ⟨sLeft, 4, 1, [52, 53, 54]⟩, ⟨sUnits, 1, 1, [54]⟩, ⟨sCache, 1, 1, [54]⟩, ⟨sSess, 1, 1, [54]⟩] from rfl, refW_put _ _ _ _ (by decide)]
    simp only [List.flatMap_cons, List.flatMap_nil, ent, numsT, ns_4, ns_5, ns_9, ns_11, ns_12, ns_13, List.map_cons, List.map_nil, List.append_nil, List.cons_append, List.nil_append, putF, List.foldl_cons, List.foldl_nil]

theorem bit_zero (b : Bool) : (bit b = 0) ↔ b = false := by cases b <;> simp [bit]
theorem nought_nil (l : List Nat) : nought l = true ↔ ∀ x ∈ l, x = 0 := by
  unfold nought
  simp
set_option maxHeartbeats 8000000 in
theorem leftS_iff (r : Rs) (ms : List Nat) (hr : r.Ok) (ho : opensE r.st r.op = 0) : refE2 (hasS r) (numsT r ms) tolds = leftS r ms := by
  have z1 := u64_zero hr.unit
  have z2 := u64_zero hr.ax
  have z3 := u64_zero hr.ay
  have z4 := u64_zero hr.new
  have z5 := u64_zero hr.expl
  have z6 := u64_zero hr.ver
  have z7 := u64_zero hr.settled
  have z8 := u64_zero hr.left
  have z9 := u64_zero hr.units
  have zA := u64_zero hr.cache
  have zB := u64_zero hr.sess
  have zC := bit_zero r.hit
  have hbb := bodyB_R ho
  have hz : zR.st = 0 ∧ zR.op = 0 := ⟨rfl, rfl⟩
  have hsp : ∀ w, hasS r w = (bodyR r.st r.op && hasR w.ops r.op) := fun _ => rfl
  unfold leftS refE2 spareM spareR Rs.eqB
  rw [← hbb]
  rcases hb : bodyR r.st r.op with _ | _
  · simp only [hsp, hb, tolds, List.any_cons, List.any_nil, numsT, noughts, ns_tok, ns_1, ns_2, ns_3, ns_4, ns_5, ns_6, ns_7, ns_8, ns_9, ns_10, ns_11, ns_12, ns_13]
    rw [Bool.eq_iff_iff]
    simp [zR, z1, z2, z3, z4, z5, z6, z7, z8, z9, zA, zB, zC, Bool.and_eq_false_iff]
    simp only [or_assoc, or_comm, or_left_comm]
  · have h06 : r.op = 0 ∨ r.op = 1 ∨ r.op = 2 ∨ r.op = 3 ∨ r.op = 4 ∨ r.op = 5 ∨ r.op = 6 := by
      have h1 : r.op ≤ 6 := by unfold bodyR at hb; simp at hb; exact hb.1
      have h2 : ¬ r.op < 0 := by intro h; unfold opensE at ho; rw [if_pos (.inl h)] at ho; cases ho
      omega
    simp only [hsp, hb, tolds, List.any_cons, List.any_nil, numsT, noughts, ns_tok, ns_1, ns_2, ns_3, ns_4, ns_5, ns_6, ns_7, ns_8, ns_9, ns_10, ns_11, ns_12, ns_13]
    rw [Bool.eq_iff_iff]
    rcases h06 with h | h | h | h | h | h | h <;> rw [h] <;> simp [hasR, zR, z1, z2, z3, z4, z5, z6, z7, z8, z9, zA, zB, zC, Bool.and_eq_false_iff]
    all_goals simp only [or_assoc, or_comm, or_left_comm]
theorem wri_same (r : Rs) (ms : List Nat) (hr : r.Ok) : wri r ms = rWri r ms := by
  unfold wri rWri toldF
  dsimp only
  by_cases h1 : u64 r.st / 2 ^ (8 * 1) = 0
  · rw [if_neg (show ¬ (u64 r.st / 2 ^ (8 * 1) ≠ 0) from fun h => h h1)]
    have e1 : putF1 ([], none) (sStat, 1, u64 r.st) = (bes (u64 r.st) 1 1, none) := by
      unfold putF1
      dsimp only
      rw [if_pos h1]; try rfl
    rw [e1]
    dsimp only
    by_cases h2 : r.op < 0 ∨ 255 < r.op
    · have e2 : opensE r.st r.op = 18 := by unfold opensE; rw [if_pos (by omega)]
      rw [if_pos h2, e2, if_pos (by decide)]
      rfl
    · rw [if_neg h2]
      have hu : u64 r.op = (r.op % 256).toNat := by unfold u64; omega
      have hlt : u64 r.op / 2 ^ (8 * 1) = 0 := by unfold u64; omega
      have e3 : putF1 (bes (u64 r.st) 1 1, none) (sOp, 1, u64 r.op) = (bes (u64 r.st) 1 1 ++ [(r.op % 256).toNat], none) := by
        unfold putF1
        dsimp only
        rw [if_pos hlt, show bes (u64 r.op) 1 1 = [u64 r.op] from bes1 (by unfold u64; omega), hu]
      rw [e3]
      unfold toldF2
      dsimp only
      by_cases h3 : 7 ≤ r.op ∧ r.op ≠ 255
      · have e2 : opensE r.st r.op = 18 := by unfold opensE; rw [if_pos (by omega)]
        rw [if_pos h3, e2, if_pos (by decide)]
        rfl
      · rw [if_neg h3]
        by_cases h4 : r.op = 255 ∧ r.st = 0
        · have e2 : opensE r.st r.op = 1 := by unfold opensE; rw [if_neg (by omega), if_pos h4]
          rw [if_pos h4, e2, if_pos (by decide)]
          rfl
        · have e2 : opensE r.st r.op = 0 := by unfold opensE; rw [if_neg (by omega), if_neg h4]
          rw [if_neg h4, e2, if_neg (show ¬ ((0 : Int) ≠ 0) by decide), leftS_iff r ms hr e2]
          rcases hb : bodyR r.st r.op with _ | _
          · rw [← bodyB_R e2, hb, if_neg Bool.false_ne_true]
            have e5 : refW (hasS r) (numsT r ms) ms tolds (bes (u64 r.st) 1 1 ++ [(r.op % 256).toNat]) = (none, bes (u64 r.st) 1 1 ++ [(r.op % 256).toNat]) := by
              rw [refW_filter]
              have : tolds.filter (hasS r) = [] := by
                rw [List.filter_eq_nil_iff]
                intro w _
                unfold hasS
                rw [hb]; simp
              rw [this]; try rfl
            rw [e5]
            rfl
          · rw [← bodyB_R e2, hb, if_pos rfl, ← told_same r ms e2 hb]
  · rw [if_pos (show u64 r.st / 2 ^ (8 * 1) ≠ 0 from h1)]
    have e1 : putF1 ([], none) (sStat, 1, u64 r.st) = ([], some (sStat, 10)) := by
      unfold putF1
      dsimp only
      rw [if_neg h1]
    rw [e1]
    have e2 : (if r.op < 0 ∨ 255 < r.op then note (some (sStat, 10)) sOp 18 else some (sStat, 10)) = some (sStat, 10) := by split <;> rfl
    dsimp only
    rw [e2]
    rfl
end Go.Proofs.YtnaclkdjchnbpaaDoor
end
section
namespace Go.Proofs.YtnaclkdjchnbpaaDoor
open Go Go.K

theorem opens_p (β : Nat → Option Obj) (st op : Int) : Go.K.Tr Tryd.prog 40 [.int .i64 st, .int .i64 op] β [] (fun v s => v = .int .i64 (opensE st op) ∧ s = []) := by
  refine Tr.of_body Tryd.tt (args := [.int .i64 st, .int .i64 op]) (fr := [(0, true, .int .i64 st), (1, true, .int .i64 op)]) Tryd.func40 rfl (by decide) rfl Tryd.ntmps40 rfl rfl ?_
  intro E hE
  subst hE
  repeat' (first | refine KW.seq ?_ | refine KW.region ?_ | refine KO.nil ?_ | refine At.then_normal ?_ | refine KW.skip ?_ | refine KW.ret ?_ | refine At.then_ret ?_ | ((first | apply KO.val rfl rfl rfl ?kq ?_ | apply KO.valIn rfl rfl rfl ?kq ?_); (case kq => ((first | apply qt_ev rfl ?hi | ((first | apply qt_pick_and rfl rfl rfl ?hi ?pj | apply qt_pick_or rfl rfl rfl ?hi ?pj); (case pj => (intro h h2; first | with_reducible exact h2 | with_reducible exact andi h h2 | (rw [h2]; rfl) ))) ); (case hi => (intro h; (repeat' (first | with_reducible exact alln | with_reducible refine allc ?_ ?_ | with_reducible refine andi ?_ ?_)); all_goals (first | with_reducible rfl | with_reducible exact h | with_reducible exact andl h | with_reducible exact andr h )))))) | (refine KW.cond rfl ?_ ?_ <;> (intro hc; try simp only [kBool] at hc)) | fail)
  · ((first | apply At.done_ret ); (focus (repeat' (first | exact ResVs.nil' | apply ResVs.cons' | exact ResV.tmp' rfl ))); dsimp only [resVal])
    refine ⟨?_, rfl⟩
    unfold opensE
    rw [if_pos (by omega)]
  · ((first | apply At.done_ret ); (focus (repeat' (first | exact ResVs.nil' | apply ResVs.cons' | exact ResV.tmp' rfl ))); dsimp only [resVal])
    refine ⟨?_, rfl⟩
    unfold opensE
    rw [if_neg (by omega), if_pos (by omega)]
  · ((first | apply At.done_ret ); (focus (repeat' (first | exact ResVs.nil' | apply ResVs.cons' | exact ResV.tmp' rfl ))); dsimp only [resVal])
    refine ⟨?_, rfl⟩
    unfold opensE
    rw [if_neg (by omega), if_neg (by omega)]
theorem rBody_p (β : Nat → Option Obj) (st op : Int) : Go.K.Tr Tryd.prog 42 [.int .i64 st, .int .i64 op] β [] (fun v s => v = .bool (bodyR st op) ∧ s = []) := by
  refine Tr.of_body Tryd.tt (args := [.int .i64 st, .int .i64 op]) (fr := [(0, true, .int .i64 st), (1, true, .int .i64 op)]) Tryd.func42 rfl (by decide) rfl Tryd.ntmps42 rfl rfl ?_
  intro E hE
  subst hE
  repeat' (first | refine KW.seq ?_ | refine KW.region ?_ | refine KO.nil ?_ | refine At.then_normal ?_ | refine KW.ret ?_ | ((first | apply KO.val rfl rfl rfl ?kq ?_ | apply KO.valIn rfl rfl rfl ?kq ?_); (case kq => ((first | apply qt_ev rfl ?hi | ((first | apply qt_pick_and rfl rfl rfl ?hi ?pj | apply qt_pick_or rfl rfl rfl ?hi ?pj); (case pj => (intro h h2; first | with_reducible exact h2 | with_reducible exact andi h h2 | (rw [h, h2]; rfl) ))) ); (case hi => (intro h; (repeat' (first | with_reducible exact alln | with_reducible refine allc ?_ ?_ | with_reducible refine andi ?_ ?_)); all_goals (first | with_reducible rfl | with_reducible exact h | with_reducible exact andl h | with_reducible exact andr h | with_reducible exact andl (andl h) | (simp_all; done))))))) | fail)
  ((first | apply At.done_ret ); (focus (repeat' (first | exact ResVs.nil' | apply ResVs.cons' | exact ResV.tmp' rfl ))); dsimp only [resVal])
  exact ⟨rfl, rfl⟩
theorem Told_p (β : Nat → Option Obj) : Go.K.Tr Tryd.prog 41 [] β [] (fun v s => ∃ b, v = .slice (some ⟨b, 0, none⟩) 14 14 ∧ s = [(b, cl (rowsV tolds) 86)]) := by
  refine Tr.of_body Tryd.tt (args := []) (fr := []) Tryd.func41 rfl (by decide) rfl Tryd.ntmps41 rfl rfl ?_
  intro E hE
  subst hE
  repeat' (first | refine KW.seq ?_ | refine KW.region ?_ | refine KO.nil ?_ | refine At.then_normal ?_ | refine KW.ret ?_ | ((first | apply KO.val rfl rfl rfl ?kq ?_); (case kq => ((first | apply qt_ev rfl ?hi | apply qt_build rfl rfl ?hi rfl ); (case hi => (intro h; (repeat' (first | with_reducible exact alln | with_reducible refine allc ?_ ?_ )); all_goals (first | with_reducible rfl )))))) | (refine KO.buildSlice rfl rfl rfl rfl rfl rfl rfl rfl rfl rfl rfl rfl rfl rfl ?_; intro _ _) | fail)
  ((first | apply At.done_ret ); (focus (repeat' (first | exact ResVs.nil' | apply ResVs.cons' | exact ResV.tmp' rfl ))); dsimp only [resVal])
  rename_i b _
  exact ⟨b, rfl, rfl⟩
theorem rone_p (β : Nat → Option Obj) (b : Bool) : Go.K.Tr Tryd.prog 63 [.bool b] β [] (fun v s => v = .int .u64 (bit b : Int) ∧ s = []) := by
  cases b
  · have htr := trivial
    refine Tr.of_body Tryd.tt (args := [.bool false]) (fr := [(0, true, .bool false)]) Tryd.func63 rfl (by decide) rfl Tryd.ntmps63 rfl rfl ?_
    intro E hE
    subst hE
    repeat' (first | refine KW.seq ?_ | refine KW.region ?_ | refine KO.nil ?_ | refine At.then_normal ?_ | refine KW.skip ?_ | refine KW.ret ?_ | refine KW.cond_f rfl (by first | with_reducible rfl ) ?_ | ((first | apply KO.val rfl rfl rfl ?kq ?_); (case kq => ((first | apply qt_ev rfl ?hi ); (case hi => (intro h; (repeat' (first | with_reducible exact alln | with_reducible refine allc ?_ ?_ )); all_goals (first | with_reducible rfl )))))) | fail)
    ((first | apply At.done_ret ); (focus (repeat' (first | exact ResVs.nil' | apply ResVs.cons' | exact ResV.tmp' rfl ))); dsimp only [resVal])
    exact ⟨rfl, rfl⟩
  · have htr := trivial
    refine Tr.of_body Tryd.tt (args := [.bool true]) (fr := [(0, true, .bool true)]) Tryd.func63 rfl (by decide) rfl Tryd.ntmps63 rfl rfl ?_
    intro E hE
    subst hE
    repeat' (first | refine KW.seq ?_ | refine KW.region ?_ | refine KO.nil ?_ | refine At.then_normal ?_ | refine KW.ret ?_ | refine At.then_ret ?_ | refine KW.cond_t rfl (by first | with_reducible rfl ) ?_ | ((first | apply KO.val rfl rfl rfl ?kq ?_); (case kq => ((first | apply qt_ev rfl ?hi ); (case hi => (intro h; (repeat' (first | with_reducible exact alln | with_reducible refine allc ?_ ?_ )); all_goals (first | with_reducible rfl )))))) | fail)
    ((first | apply At.done_ret ); (focus (repeat' (first | exact ResVs.nil' | apply ResVs.cons' | exact ResV.tmp' rfl ))); dsimp only [resVal])
    exact ⟨rfl, rfl⟩
set_option maxHeartbeats 4000000 in
theorem numbersS_p (β : Nat → Option Obj) (r : Rs) (p : Option Addr) (m c : Nat) (hmv : r.mv = .slice p m c) (hm : m ≤ 1000000) (n : ByteArray) :
    Go.K.Tr Tryd.prog 43 [.agg r.cells.toArray, .string n] β [] (fun v s => ∃ b, v = .slice (some ⟨b, 0, none⟩) (numsS r m n).length (numsS r m n).length ∧ s = [(b, cl (uv (numsS r m n)) 22)]) := by
  refine Tr.sub ?_
  refine Tr.of_body Tryd.tt (args := [.agg r.cells.toArray, .string n]) (fr := [(0, true, .agg r.cells.toArray), (1, true, .string n)]) Tryd.func43 rfl (by decide) rfl Tryd.ntmps43 rfl rfl ?_
  intro E hE
  subst hE
  have hone := rone_p E.β r.hit
  dsimp only [Rs.cells]
  rw [hmv]
  repeat' (first | refine KW.seq ?_ | refine KW.region ?_ | refine KO.nil ?_ | refine At.then_normal ?_ | refine KW.skip ?_ | refine KW.ret ?_ | refine At.then_ret ?_ | refine KW.block ?_ | refine At.block_ret ?_ | ((first | apply KO.val rfl rfl rfl ?kq ?_); (case kq => ((first | ((first | apply qt_convU rfl rfl rfl rfl ?hi ?om); (case om => (intro hg; first | omega ))) | apply qt_ev rfl ?hi | ((first | apply qt_load1 rfl rfl ?hi rfl rfl ?hm ?hc ); (case hm => repeat (first | exact List.Mem.head _ )); (case hc => rfl)) | apply qt_streq rfl rfl rfl ?hi | refine qt_callQ rfl rfl ?hi (fun hg => Tr.quiet hone) ); (case hi => (intro h; (repeat' (first | with_reducible exact alln | with_reducible refine allc ?_ ?_ | with_reducible refine andi ?_ ?_)); all_goals (first | with_reducible rfl )))))) | (refine KO.box rfl rfl rfl rfl rfl rfl ?_; intro _ _) | (refine KO.buildSlice rfl rfl rfl rfl rfl rfl rfl rfl rfl rfl rfl rfl rfl rfl ?_; intro _ _) | (refine KW.cond rfl ?_ ?_ <;> (intro hc; try simp only [kBool] at hc)) | fail)
  · ((first | apply At.done_ret ); (focus (repeat' (first | exact ResVs.nil' | apply ResVs.cons' | exact ResV.tmp' rfl ))); dsimp only [resVal])
    rename_i b _
    obtain rfl : n = sToken := hc
    rw [ns_tok]
    refine ⟨[(b, _)], List.Sublist.cons_cons _ (List.nil_sublist _), b, rfl, ?_⟩
    first | rfl 
  · ((first | apply At.done_ret ); (focus (repeat' (first | exact ResVs.nil' | apply ResVs.cons' | exact ResV.tmp' rfl ))); dsimp only [resVal])
    rename_i b _
    obtain rfl : n = sUnit := hc
    rw [ns_1]
    refine ⟨[(b, _)], List.Sublist.cons_cons _ (List.nil_sublist _), b, rfl, ?_⟩
    first | (simp only [u64_wrap]; rfl) 
  · ((first | apply At.done_ret ); (focus (repeat' (first | exact ResVs.nil' | apply ResVs.cons' | exact ResV.tmp' rfl ))); dsimp only [resVal])
    rename_i b _
    obtain rfl : n = sAt := hc
    rw [ns_2]
    refine ⟨[(b, _)], List.Sublist.cons_cons _ (List.nil_sublist _), b, rfl, ?_⟩
    first | (simp only [u64_wrap]; rfl) 
  · ((first | apply At.done_ret ); (focus (repeat' (first | exact ResVs.nil' | apply ResVs.cons' | exact ResV.tmp' rfl ))); dsimp only [resVal])
    rename_i b _
    obtain rfl : n = sNew := hc
    rw [ns_3]
    refine ⟨[(b, _)], List.Sublist.cons_cons _ (List.nil_sublist _), b, rfl, ?_⟩
    first | (simp only [u64_wrap]; rfl) 
  · ((first | apply At.done_ret ); (focus (repeat' (first | exact ResVs.nil' | apply ResVs.cons' | exact ResV.tmp' rfl ))); dsimp only [resVal])
    rename_i b _
    obtain rfl : n = sExpl := hc
    rw [ns_4]
    refine ⟨[(b, _)], List.Sublist.cons_cons _ (List.nil_sublist _), b, rfl, ?_⟩
    first | (simp only [u64_wrap]; rfl) 
  · ((first | apply At.done_ret ); (focus (repeat' (first | exact ResVs.nil' | apply ResVs.cons' | exact ResV.tmp' rfl ))); dsimp only [resVal])
    rename_i b _
    obtain rfl : n = sVer := hc
    rw [ns_5]
    refine ⟨[(b, _)], List.Sublist.cons_cons _ (List.nil_sublist _), b, rfl, ?_⟩
    first | (simp only [u64_wrap]; rfl) 
  · ((first | apply At.done_ret ); (focus (repeat' (first | exact ResVs.nil' | apply ResVs.cons' | exact ResV.tmp' rfl ))); dsimp only [resVal])
    rename_i b _
    obtain rfl : n = sHit := hc
    rw [ns_6]
    refine ⟨[(b, _)], List.Sublist.cons_cons _ (List.nil_sublist _), b, rfl, ?_⟩
    first | rfl 
  · ((first | apply At.done_ret ); (focus (repeat' (first | exact ResVs.nil' | apply ResVs.cons' | exact ResV.tmp' rfl ))); dsimp only [resVal])
    rename_i b _
    obtain rfl : n = sCost := hc
    rw [ns_7]
    refine ⟨[(b, _)], List.Sublist.cons_cons _ (List.nil_sublist _), b, rfl, ?_⟩
    first | rfl 
  · ((first | apply At.done_ret ); (focus (repeat' (first | exact ResVs.nil' | apply ResVs.cons' | exact ResV.tmp' rfl ))); dsimp only [resVal])
    rename_i b _
    obtain rfl : n = sSettled := hc
    rw [ns_8]
    refine ⟨[(b, _)], List.Sublist.cons_cons _ (List.nil_sublist _), b, rfl, ?_⟩
    first | (simp only [u64_wrap]; rfl) 
  · ((first | apply At.done_ret ); (focus (repeat' (first | exact ResVs.nil' | apply ResVs.cons' | exact ResV.tmp' rfl ))); dsimp only [resVal])
    rename_i b _
    obtain rfl : n = sLeft := hc
    rw [ns_9]
    refine ⟨[(b, _)], List.Sublist.cons_cons _ (List.nil_sublist _), b, rfl, ?_⟩
    first | (simp only [u64_wrap]; rfl) 
  · ((first | apply At.done_ret ); (focus (repeat' (first | exact ResVs.nil' | apply ResVs.cons' | exact ResV.tmp' rfl ))); dsimp only [resVal])
    rename_i b _
    obtain rfl : n = sMoves := hc
    rw [ns_10]
    refine ⟨[(b, _)], List.Sublist.cons_cons _ (List.nil_sublist _), b, rfl, ?_⟩
    first | rfl 
  · ((first | apply At.done_ret ); (focus (repeat' (first | exact ResVs.nil' | apply ResVs.cons' | exact ResV.tmp' rfl ))); dsimp only [resVal])
    rename_i b _
    obtain rfl : n = sUnits := hc
    rw [ns_11]
    refine ⟨[(b, _)], List.Sublist.cons_cons _ (List.nil_sublist _), b, rfl, ?_⟩
    first | (simp only [u64_wrap]; rfl) 
  · ((first | apply At.done_ret ); (focus (repeat' (first | exact ResVs.nil' | apply ResVs.cons' | exact ResV.tmp' rfl ))); dsimp only [resVal])
    rename_i b _
    obtain rfl : n = sCache := hc
    rw [ns_12]
    refine ⟨[(b, _)], List.Sublist.cons_cons _ (List.nil_sublist _), b, rfl, ?_⟩
    first | (simp only [u64_wrap]; rfl) 
  · ((first | apply At.done_ret ); (focus (repeat' (first | exact ResVs.nil' | apply ResVs.cons' | exact ResV.tmp' rfl ))); dsimp only [resVal])
    rename_i b _
    have e : numsS r m n = [u64 r.sess] := by
      unfold numsS
      simp only [sToken, sUnit, sAt, sNew, sExpl, sVer, sHit, sCost, sSettled, sLeft, sMoves, sUnits, sCache]
      simp only [*, if_false]
    rw [e]
    exact ⟨[(b, _)], List.Sublist.cons_cons _ (List.nil_sublist _), b, rfl, by simp only [u64_wrap]; rfl⟩
theorem toldL_p (β : Nat → Option Obj) (r : Rs) (p : Option Addr) (m c : Nat) (hmv : r.mv = .slice p m c) : Go.K.Tr Tryd.prog 18 [.agg r.cells.toArray] β [] (fun v s => v = .agg r.cells.toArray ∧ s = []) := by
  refine Tr.sub ?_
  refine Tr.of_body Tryd.tt (args := [.agg r.cells.toArray]) (fr := [(0, true, .agg r.cells.toArray)]) Tryd.func18 rfl (by decide) rfl Tryd.ntmps18 rfl rfl ?_
  intro E hE
  subst hE
  dsimp only [Rs.cells]
  rw [hmv]
  repeat' (first | refine KW.seq ?_ | refine KW.region ?_ | refine KO.nil ?_ | refine At.then_normal ?_ | refine KW.ret ?_ | ((first | apply KO.val rfl rfl rfl ?kq ?_); (case kq => ((first | apply qt_ev rfl ?hi | ((first | apply qt_load1 rfl rfl ?hi rfl rfl ?hm ?hc | apply qt_loadN rfl rfl ?hi rfl rfl rfl ?hm ?hc); (case hm => repeat (first | exact List.Mem.head _ | apply List.Mem.tail _ )); (case hc => rfl)) | apply qt_build rfl rfl ?hi rfl ); (case hi => (intro h; (repeat' (first | with_reducible exact alln | with_reducible refine allc ?_ ?_ )); all_goals (first | with_reducible rfl )))))) | (refine KO.box rfl rfl rfl rfl rfl rfl ?_; intro _ _) | (refine KO.alloc rfl rfl rfl rfl rfl rfl ?_; intro _ _) | (apply KO.store (i := _) rfl rfl rfl rfl rfl rfl rfl rfl ?hl ?sg ?hw ?ho ?hs; (case sg => first | exact (rfl : getI 0 _ = _) ); (case hl => rfl); (case hw => rfl); (case ho => rfl); (case hs => rfl)) | fail)
  ((first | apply At.done_ret ); (focus (repeat' (first | exact ResVs.nil' | apply ResVs.cons' | (apply ResV.cellN rfl ?hm rfl rfl rfl ?hc; (case hm => repeat (first | exact List.Mem.head _ )); (case hc => rfl))))); dsimp only [resVal])
  exact ⟨[], List.nil_sublist _, rfl, rfl⟩
end Go.Proofs.YtnaclkdjchnbpaaDoor
end
section
namespace Go.Proofs.YtnaclkdjchnbpaaDoor
open Go Go.K

/-- A form that takes: what is left, what went wrong; of no more than so many bytes. -/
structure FormT (β : Nat → Option Obj) (bf : Nat) (what : ByteArray) (z : List Nat × Flt) (σ : Heap) : Prop where
  f : FormB β bf what (.take z.1) z.2 σ
  b : z.1.length ≤ 900000
/-- A number taken, unless something went wrong. -/
def tkF1 (z : List Nat × Flt) (f : ByteArray × Nat) : (List Nat × Flt) × Nat := match z.2 with
  | some y => ((z.1, some y), 0)
  | none => (((tk1 f z.1).2.1, (tk1 f z.1).1), (tk1 f z.1).2.2)
theorem tk1_len (f : ByteArray × Nat) (l : List Nat) : (tk1 f l).2.1.length ≤ l.length := by
  unfold tk1
  split
  · dsimp only; rw [List.length_drop]; omega
  · exact Nat.le_refl _
theorem tkF1_len (z : List Nat × Flt) (f : ByteArray × Nat) : (tkF1 z f).1.1.length ≤ z.1.length := by
  unfold tkF1
  rcases z with ⟨l, x⟩
  rcases x with _ | y
  · exact tk1_len f l
  · exact Nat.le_refl _
theorem stepW_T (z : List Nat × Flt) (name : ByteArray) (s : Nat) (h1 : 1 ≤ s) (h8 : s ≤ 8) : stepW (.take z.1) z.2 name 0 s = (.take (tkF1 z (name, s)).1.1, (tkF1 z (name, s)).1.2, (tkF1 z (name, s)).2) := by
  rcases z with ⟨l, x⟩
  rcases x with _ | y
  · exact stepW_t l name 0 s h1 h8
  · rfl
def iI (n : Nat) : Int := IntKind.i64.wrap (n : Int)
theorem stepN_T (z : List Nat × Flt) (name : ByteArray) (s : Nat) (h1 : 1 ≤ s) (h8 : s ≤ 8) : stepN (.take z.1) z.2 name 0 s = (.take (tkF1 z (name, s)).1.1, (tkF1 z (name, s)).1.2, iI (tkF1 z (name, s)).2) := by
  unfold stepN
  rw [show u64 0 = 0 from rfl, stepW_T z name s h1 h8]
  rfl
theorem wordT_p (β : Nat → Option Obj) (bf bx : Nat) (cs : List Value) (t : TypeId) (ox : Nat) (what name : ByteArray) {z : List Nat × Flt} {σ : Heap} (s : Nat) (h1 : 1 ≤ s) (h8 : s ≤ 8) (hx : cs[ox]? = some (.int .u64 0)) (hf : FormT β bf what z σ) :
    Go.K.Tr Tryd.prog 55 [.pointer (some ⟨bf, 0, none⟩), .string name, .pointer (some ⟨bx, ox, none⟩), .int .i64 (s : Int)] β ((bx, cl cs t) :: σ) (fun _ σ' => ∃ τ, FormT β bf what (tkF1 z (name, s)).1 τ ∧ σ' = (bx, cl (cs.set ox (.int .u64 ((tkF1 z (name, s)).2 : Int))) t) :: τ) := by
  refine (word_p β bf bx cs t ox what name (.take z.1) z.2 σ hf.f (by have := hf.b; show z.1.length ≤ _; omega) 0 s (by omega) hx).mono ?_
  rintro _ _ ⟨τ, hτ, rfl⟩
  rw [stepW_T z name s h1 h8] at hτ ⊢
  exact ⟨τ, ⟨hτ, Nat.le_trans (tkF1_len _ _) hf.b⟩, rfl⟩
theorem numberT_p (β : Nat → Option Obj) (bf bx : Nat) (cs : List Value) (t : TypeId) (ox : Nat) (what name : ByteArray) {z : List Nat × Flt} {σ : Heap} (s : Nat) (h1 : 1 ≤ s) (h8 : s ≤ 8) (hx : cs[ox]? = some (.int .i64 0)) (hf : FormT β bf what z σ) :
    Go.K.Tr Tryd.prog 52 [.pointer (some ⟨bf, 0, none⟩), .string name, .pointer (some ⟨bx, ox, none⟩), .int .i64 (s : Int)] β ((bx, cl cs t) :: σ) (fun _ σ' => ∃ τ, FormT β bf what (tkF1 z (name, s)).1 τ ∧ σ' = (bx, cl (cs.set ox (.int .i64 (iI (tkF1 z (name, s)).2))) t) :: τ) := by
  refine (number_p β bf bx cs t ox what name (.take z.1) z.2 σ hf.f (by have := hf.b; show z.1.length ≤ _; omega) 0 s hx).mono ?_
  rintro _ _ ⟨τ, hτ, rfl⟩
  rw [stepN_T z name s h1 h8] at hτ ⊢
  exact ⟨τ, ⟨hτ, Nat.le_trans (tkF1_len _ _) hf.b⟩, rfl⟩
theorem cellT_p (β : Nat → Option Obj) (bf bx : Nat) (cs : List Value) (t : TypeId) (ox : Nat) (what name : ByteArray) {z : List Nat × Flt} {σ : Heap} (hx : cs[ox]? = some (.int .i64 0)) (hy : cs[ox + 1]? = some (.int .i64 0)) (hf : FormT β bf what z σ) :
    Go.K.Tr Tryd.prog 56 [.pointer (some ⟨bf, 0, none⟩), .string name, .pointer (some ⟨bx, ox, none⟩)] β ((bx, cl cs t) :: σ) (fun _ σ' => ∃ τ, FormT β bf what (tkF1 (tkF1 z (name, 2)).1 (name, 2)).1 τ ∧ σ' = (bx, cl ((cs.set ox (.int .i64 (iI (tkF1 z (name, 2)).2))).set (ox + 1) (.int .i64 (iI (tkF1 (tkF1 z (name, 2)).1 (name, 2)).2))) t) :: τ) := by
  refine (cell_p β bf bx cs t ox what name (.take z.1) z.2 σ hf.f (by have := hf.b; show z.1.length ≤ _; omega) 0 0 hx hy).mono ?_
  rintro _ _ ⟨τ, hτ, rfl⟩
  have e : stepC (.take z.1) z.2 name 0 0 = (.take (tkF1 (tkF1 z (name, 2)).1 (name, 2)).1.1, (tkF1 (tkF1 z (name, 2)).1 (name, 2)).1.2, iI (tkF1 z (name, 2)).2, iI (tkF1 (tkF1 z (name, 2)).1 (name, 2)).2) := by
    have e1 : stepN (.take z.1) z.2 name 0 2 = _ := stepN_T z name 2 (by omega) (by omega)
    have e2 : stepN (.take (tkF1 z (name, 2)).1.1) (tkF1 z (name, 2)).1.2 name 0 2 = _ := stepN_T (tkF1 z (name, 2)).1 name 2 (by omega) (by omega)
    simp only [stepC, e1, e2]
  rw [e] at hτ ⊢
  exact ⟨τ, ⟨hτ, Nat.le_trans (tkF1_len _ _) (Nat.le_trans (tkF1_len _ _) hf.b)⟩, rfl⟩
/-- A flag taken. -/
def flgF (z : List Nat × Flt) (name : ByteArray) : (List Nat × Flt) × Bool :=
  (((tkF1 z (name, 1)).1.1, if 1 < iI (tkF1 z (name, 1)).2 then note (tkF1 z (name, 1)).1.2 name 11 else (tkF1 z (name, 1)).1.2), decide (iI (tkF1 z (name, 1)).2 = 1))
theorem flagT_p (β : Nat → Option Obj) (bf bx : Nat) (cs : List Value) (t : TypeId) (ox : Nat) (what name : ByteArray) {z : List Nat × Flt} {σ : Heap} (hx : cs[ox]? = some (.bool false)) (hf : FormT β bf what z σ) :
    Go.K.Tr Tryd.prog 71 [.pointer (some ⟨bf, 0, none⟩), .string name, .pointer (some ⟨bx, ox, none⟩)] β ((bx, cl cs t) :: σ) (fun _ σ' => ∃ τ, FormT β bf what (flgF z name).1 τ ∧ σ' = (bx, cl (cs.set ox (.bool (flgF z name).2)) t) :: τ) := by
  refine (flag_p β bf bx cs t ox what name (.take z.1) z.2 σ hf.f (by have := hf.b; show z.1.length ≤ _; omega) false hx).mono ?_
  rintro _ _ ⟨τ, hτ, rfl⟩
  have e : stepF (.take z.1) z.2 name false = (.take (flgF z name).1.1, (flgF z name).1.2, (flgF z name).2) := by
    have e1 : stepN (.take z.1) z.2 name (if false then 1 else 0) 1 = _ := stepN_T z name 1 (by omega) (by omega)
    unfold stepF
    rw [e1]
    rfl
  rw [e] at hτ ⊢
  exact ⟨τ, ⟨hτ, Nat.le_trans (tkF1_len _ _) hf.b⟩, rfl⟩
end Go.Proofs.YtnaclkdjchnbpaaDoor
end
section
namespace Go.Proofs.YtnaclkdjchnbpaaDoor
open Go Go.K

def setS (r : Rs) (n : ByteArray) (x : List Nat) : Rs :=
  if n = sToken then { r with tok := x.getD 0 0 }
  else if n = sUnit then { r with unit := iI (x.getD 0 0) }
  else if n = sAt then { r with ax := iI (x.getD 0 0), ay := iI (x.getD 1 0) }
  else if n = sNew then { r with new := iI (x.getD 0 0) }
  else if n = sExpl then { r with expl := iI (x.getD 0 0) }
  else if n = sVer then { r with ver := iI (x.getD 0 0) }
  else if n = sHit then { r with hit := decide (x.getD 0 0 = 1) }
  else if n = sCost then { r with cost := x.getD 0 0 }
  else if n = sSettled then { r with settled := iI (x.getD 0 0) }
  else if n = sLeft then { r with left := iI (x.getD 0 0) }
  else if n = sUnits then { r with units := iI (x.getD 0 0) }
  else if n = sCache then { r with cache := iI (x.getD 0 0) }
  else if n = sSess then { r with sess := iI (x.getD 0 0) }
  else r
def hasP (st op : Int) (w : RowT) : Bool := bodyR st op && hasR w.ops op
def refPG (has : RowT → Bool) : List RowT → List Nat → Rs → List Nat → Flt × Rs × List Nat
  | [], l, r, ms => if 0 < l.length then (some (sEnd, 12), zR, []) else (none, r, ms)
  | w :: ws, l, r, ms => if has w then
      (if l.length < w.size * w.many then (some (w.name, 17), zR, [])
      else if w.name = sHit ∧ 1 < (rdN w.size w.many l).getD 0 0 then (some (sHit, 11), zR, [])
      else if w.name = sMoves then
        (if 65535 < (rdN w.size w.many l).getD 0 0 then (some (sMoves, 12), zR, [])
        else if (l.drop (w.size * w.many)).length < (rdN w.size w.many l).getD 0 0 then (some (sMoves, 17), zR, [])
        else if ((l.drop (w.size * w.many)).take ((rdN w.size w.many l).getD 0 0)).all (fun m => decide (m ≤ 3)) then
          refPG has ws ((l.drop (w.size * w.many)).drop ((rdN w.size w.many l).getD 0 0)) (setS r w.name (rdN w.size w.many l)) (ms ++ (l.drop (w.size * w.many)).take ((rdN w.size w.many l).getD 0 0))
        else (some (sMoves, 10), zR, []))
      else refPG has ws (l.drop (w.size * w.many)) (setS r w.name (rdN w.size w.many l)) ms)
    else refPG has ws l r ms
def rPar (l : List Nat) : Flt × Rs × List Nat :=
  if l.length < 1 then (some (sStat, 17), zR, []) else if l.length < 2 then (some (sOp, 17), zR, [])
  else if opensE (l.getD 0 0 : Nat) (l.getD 1 0 : Nat) ≠ 0 then (some (sOp, opensE (l.getD 0 0 : Nat) (l.getD 1 0 : Nat)), zR, [])
  else refPG (hasP (l.getD 0 0 : Nat) (l.getD 1 0 : Nat)) tolds (l.drop 2) { zR with st := (l.getD 0 0 : Nat), op := (l.getD 1 0 : Nat) } []
def RParR (l : List Nat) (v : Value) (σ : Heap) : Prop := match rPar l with
  | (some y, _, _) => v = .tuple #[.agg zR.cells.toArray, .agg #[.int .i64 y.2, .string y.1]] ∧ σ = []
  | (none, r, ms) => ∃ u, Vec 5 1 ms.length (by8 ms) u σ ∧ v = .tuple #[.agg { r with mv := u }.cells.toArray, .agg #[.int .i64 0, .string ByteArray.empty]]
theorem tolds_two : ∀ w ∈ tolds, 1 ≤ w.many ∧ 1 ≤ w.size ∧ (w.name = sAt → w.many = 2) ∧ (w.name = sMoves → w.size = 4 ∧ w.many = 1) := by decide
theorem tolds_ops' : ∀ w ∈ tolds, (∀ b ∈ w.ops, 48 ≤ b ∧ b ≤ 57) ∧ w.ops.length ≤ 100 ∧ w.size ≤ 8 ∧ w.many ≤ 2 := by decide
theorem rcellS_p (β : Nat → Option Obj) (σ : Heap) (x : List Nat) (p : Option Addr) (n c : Nat) (hl : x.length = n) (h2 : 2 ≤ n) (hp : SL β σ 1 n (uv x) p) :
    Go.K.Tr Tryd.prog 49 [.slice p n c] β σ (fun v s => v = .agg #[.int .i64 (iI (x.getD 0 0)), .int .i64 (iI (x.getD 1 0))] ∧ s = σ) := by
  refine Tr.sub ?_
  refine Tr.of_body Tryd.tt (args := [.slice p n c]) (fr := [(0, true, .slice p n c)]) Tryd.func49 rfl (by decide) rfl Tryd.ntmps49 rfl rfl ?_
  intro E hE
  subst hE
  obtain ⟨b1, o1, rfl, h1⟩ := hp.2 (by omega)
  obtain ⟨a, ha⟩ : ∃ z, x[0]? = some z := ⟨_, List.getElem?_eq_getElem (by omega)⟩
  obtain ⟨b, hb⟩ : ∃ z, x[1]? = some z := ⟨_, List.getElem?_eq_getElem (by omega)⟩
  have ea : x.getD 0 0 = a := by rw [List.getD_eq_getElem?_getD, ha]; rfl
  have eb : x.getD 1 0 = b := by rw [List.getD_eq_getElem?_getD, hb]; rfl
  rw [ea, eb]
  have k0 : ∀ q, Cel E.β (q :: σ) b1 (o1 + (0 : Int).toNat * 1) (.int .u64 (a : Int)) := fun q => (h1 0 _ (uv_get ha)).mono (fun _ h => List.mem_cons_of_mem _ h)
  have k1 : ∀ q, Cel E.β (q :: σ) b1 (o1 + (1 : Int).toNat * 1) (.int .u64 (b : Int)) := fun q => (h1 1 _ (uv_get hb)).mono (fun _ h => List.mem_cons_of_mem _ h)
  repeat' (first | refine KW.seq ?_ | refine KW.region ?_ | refine KO.nil ?_ | refine At.then_normal ?_ | refine KW.skip ?_ | refine KW.ret ?_ | refine At.then_ret ?_ | refine KW.block ?_ | refine KW.exit ?_ | refine At.block_normal ?_ | refine At.block_ret ?_ | refine At.loop_ret ?_ | refine At.then_exit ?_ | refine At.block_here rfl ?_ | refine At.block_there rfl ?_ | refine At.loop_exit ?_ | refine At.cut_ret ?_ | refine At.cutA_ret ?_ | refine At.cutA_exit ?_ | refine At.cut_exit ?_ | (refine At.cut_same ?_; repeat' (first | exact FLe.nil _ | refine FLe.cons rfl rfl ?_)) | refine KW.cond_t rfl (by first | with_reducible rfl | decide) ?_ | refine KW.cond_f rfl (by first | with_reducible rfl | decide) ?_ | refine KW.scope ?_ | refine KW.label ?_ | refine At.scope_normal ?_ | refine At.scope_ret ?_ | refine At.scope_exit ?_ | refine KW.draw 0 (by decide +kernel) ?_ | refine KW.drawU rfl (by decide +kernel) ?_ | refine KD.zero ?_ | ((first | apply KO.val rfl rfl rfl ?kq ?_ | apply KD.val rfl rfl rfl ?kq ?_); (case kq => ((first | ((first | apply qt_convI rfl rfl rfl rfl ?hi ?om | apply qt_convU rfl rfl rfl rfl ?hi ?om | apply qt_indexAddr_arr rfl rfl rfl ?hi rfl rfl ?om | apply qt_indexAddr_slice rfl rfl rfl ?hi rfl rfl ?om); (case om => (intro hg; first | omega | (simp only [kBool] at hg; omega)))) | apply qt_ev rfl ?hi | ((first | apply qt_load1 rfl rfl ?hi rfl rfl ?hm ?hc | apply qt_loadN rfl rfl ?hi rfl rfl rfl ?hm ?hc); (case hm => repeat (first | exact List.Mem.head _ | apply List.Mem.tail _ | apply List.mem_append_right _)); (case hc => rfl)) | apply qt_cap rfl rfl ?hi rfl | apply qt_build rfl rfl ?hi rfl | apply qt_eqs rfl rfl rfl ?hi rfl (Or.inl rfl) | apply qt_nes rfl rfl rfl ?hi rfl (Or.inl rfl)); (case hi => (intro h; (repeat' (first | with_reducible exact alln | with_reducible refine allc ?_ ?_ | with_reducible refine andi ?_ ?_)); all_goals (first | with_reducible rfl | with_reducible exact h | with_reducible exact andl h | with_reducible exact andr h | with_reducible exact andl (andl h) | (simp only [h, Bool.and_self]; done) | (simp [h]; done) | (simp_all; done))))))) | (refine KO.alloc rfl rfl rfl rfl rfl rfl ?_; intro _ _) | (apply KO.store (i := _) rfl rfl rfl rfl rfl rfl rfl rfl ?hl ?sg ?hw ?ho ?hs; (case sg => first | exact (rfl : getI 0 _ = _) | exact (rfl : getI 1 _ = _) | exact (rfl : getI 2 _ = _) | exact (rfl : getI 3 _ = _) | exact (rfl : getI 4 _ = _) | exact (rfl : getI 5 _ = _) | exact (rfl : getI 6 _ = _) | exact (rfl : getI 7 _ = _)); (case hl => rfl); (case hw => rfl); (case ho => rfl); (case hs => rfl)) | (refine KW.cond rfl ?_ ?_ <;> (intro hc; try simp only [kBool] at hc)) | exact absurd trivial ‹¬True› | ((first | apply KO.val (g := true) rfl rfl rfl | apply KD.val (g := true) rfl rfl rfl | apply KDE.val (g := true) rfl rfl rfl | apply KDE.val rfl rfl rfl | apply KDH.val0 (g := true) rfl rfl rfl | apply KDH.val1 (g := true) rfl rfl rfl | apply KD.val rfl rfl rfl | apply KDH.val0 rfl rfl rfl); (first | (apply qt_loadN_cel rfl rfl ?hi rfl rfl rfl ?hl ?hc; (case hc => exact fun _ => (k0 _)); (case hl => rfl)) | (apply qt_loadN_cel rfl rfl ?hi rfl rfl rfl ?hl ?hc; (case hc => exact fun _ => (k1 _)); (case hl => rfl)) | (apply qt_load1_cel rfl rfl ?hi rfl rfl ?hc; (case hc => first | exact fun _ => (k0 _) | exact fun _ => (k1 _)))); (case hi => (first | exact fun _ => rfl | (intro h; first | rfl | exact h | (simp [h]; done) | (simp_all; done))))) | (exfalso; omega) | fail)
  ((first | apply At.done_ret | apply At.done_normal); (focus (repeat' (first | exact ResVs.nil' | apply ResVs.cons' | exact ResV.tmp' rfl | (apply ResV.cell1 rfl ?hm rfl rfl ?hc; (case hm => repeat (first | exact List.Mem.head _ | apply List.Mem.tail _ | apply List.mem_append_right _)); (case hc => rfl)) | (apply ResV.cellN rfl ?hm rfl rfl rfl ?hc; (case hm => repeat (first | exact List.Mem.head _ | apply List.Mem.tail _ | apply List.mem_append_right _)); (case hc => rfl))))); dsimp only [resVal])
  exact ⟨σ, List.Sublist.cons _ (List.Sublist.refl _), rfl, rfl⟩
set_option maxHeartbeats 8000000 in
theorem setS_p (β : Nat → Option Obj) (σ : Heap) (b4 : Nat) (r : Rs) (n : ByteArray) (x : List Nat) (p : Option Addr) (k c : Nat) (hl : x.length = k) (h1 : 1 ≤ k) (h2 : n = sAt → k = 2) (hp : SL β σ 1 k (uv x) p) :
    Go.K.Tr Tryd.prog 50 [.pointer (some ⟨b4, 0, none⟩), .string n, .slice p k c] β ((b4, cl r.cells 48) :: σ) (fun _ s => s = (b4, cl (setS r n x).cells 48) :: σ) := by
  refine Tr.of_body Tryd.tt (args := [.pointer (some ⟨b4, 0, none⟩), .string n, .slice p k c]) (fr := [(0, true, .pointer (some ⟨b4, 0, none⟩)), (1, true, .string n), (2, true, .slice p k c)]) Tryd.func50 rfl (by decide) rfl Tryd.ntmps50 rfl rfl ?_
  intro E hE
  subst hE
  obtain ⟨b1, o1, rfl, hc1⟩ := hp.2 (by omega)
  obtain ⟨a, ha⟩ : ∃ z, x[0]? = some z := ⟨_, List.getElem?_eq_getElem (by omega)⟩
  have ea : x.getD 0 0 = a := by rw [List.getD_eq_getElem?_getD, ha]; rfl
  have k0 : ∀ q, Cel E.β (q :: σ) b1 (o1 + (0 : Int).toNat * 1) (.int .u64 (a : Int)) := fun q => (hc1 0 _ (uv_get ha)).mono (fun _ h => List.mem_cons_of_mem _ h)
  have hcell := fun (σ' : Heap) (hm : ∀ q ∈ σ, q ∈ σ') (h2' : k = 2) => rcellS_p E.β σ' x (some ⟨b1, o1, none⟩) k c hl (by omega) (hp.mono hm)
  dsimp only [Rs.cells]
  repeat' (first | refine KW.seq ?_ | refine KW.region ?_ | refine KO.nil ?_ | refine At.then_normal ?_ | refine KW.skip ?_ | refine KW.ret ?_ | refine At.then_ret ?_ | refine KW.block ?_ | refine KW.exit ?_ | refine At.block_normal ?_ | refine At.block_ret ?_ | refine At.loop_ret ?_ | refine At.then_exit ?_ | refine At.block_here rfl ?_ | refine At.block_there rfl ?_ | refine At.loop_exit ?_ | refine At.cut_ret ?_ | refine At.cutA_ret ?_ | refine At.cutA_exit ?_ | refine At.cut_exit ?_ | (refine At.cut_same ?_; repeat' (first | exact FLe.nil _ | refine FLe.cons rfl rfl ?_)) | refine KW.cond_t rfl (by first | with_reducible rfl | decide) ?_ | refine KW.cond_f rfl (by first | with_reducible rfl | decide) ?_ | refine KW.scope ?_ | refine KW.label ?_ | refine At.scope_normal ?_ | refine At.scope_ret ?_ | refine At.scope_exit ?_ | ((first | apply KO.val rfl rfl rfl ?kq ?_); (case kq => ((first | ((first | apply qt_convI rfl rfl rfl rfl ?hi ?om | apply qt_convU rfl rfl rfl rfl ?hi ?om | apply qt_indexAddr_arr rfl rfl rfl ?hi rfl rfl ?om | apply qt_indexAddr_slice rfl rfl rfl ?hi rfl rfl ?om); (case om => (intro hg; first | omega | (simp only [kBool] at hg; omega)))) | apply qt_ev rfl ?hi | ((first | apply qt_load1 rfl rfl ?hi rfl rfl ?hm ?hc | apply qt_loadN rfl rfl ?hi rfl rfl rfl ?hm ?hc); (case hm => repeat (first | exact List.Mem.head _ | apply List.Mem.tail _ | apply List.mem_append_right _)); (case hc => rfl)) | apply qt_streq rfl rfl rfl ?hi | refine qt_callQ rfl rfl ?hi (fun hg => hcell _ (fun q hq => List.mem_cons_of_mem _ hq) (h2 hc)) | apply qt_cap rfl rfl ?hi rfl | apply qt_eqs rfl rfl rfl ?hi rfl (Or.inl rfl) | apply qt_nes rfl rfl rfl ?hi rfl (Or.inl rfl)); (case hi => (intro h; (repeat' (first | with_reducible exact alln | with_reducible refine allc ?_ ?_ | with_reducible refine andi ?_ ?_)); all_goals (first | with_reducible rfl | with_reducible exact h | with_reducible exact andl h | with_reducible exact andr h | with_reducible exact andl (andl h) | (simp only [h, Bool.and_self]; done) | (simp [h]; done) | (simp_all; done))))))) | (apply KO.store (i := _) rfl rfl rfl rfl rfl rfl rfl rfl ?hl ?sg ?hw ?ho ?hs; (case sg => first | exact (rfl : getI 0 _ = _) | exact (rfl : getI 1 _ = _) | exact (rfl : getI 2 _ = _) | exact (rfl : getI 3 _ = _) | exact (rfl : getI 4 _ = _) | exact (rfl : getI 5 _ = _) | exact (rfl : getI 6 _ = _) | exact (rfl : getI 7 _ = _)); (case hl => rfl); (case hw => rfl); (case ho => rfl); (case hs => rfl)) | (refine KW.cond rfl ?_ ?_ <;> (intro hc; try simp only [kBool] at hc)) | exact absurd trivial ‹¬True› | ((first | apply KO.val (g := true) rfl rfl rfl); (first | (apply qt_loadN_cel rfl rfl ?hi rfl rfl rfl ?hl ?hc; (case hc => exact fun _ => (k0 _)); (case hl => rfl)) | (apply qt_load1_cel rfl rfl ?hi rfl rfl ?hc; (case hc => first | exact fun _ => (k0 _)))); (case hi => (first | exact fun _ => rfl | (intro h; first | rfl | exact h | (simp [h]; done) | (simp_all; done))))) | (exfalso; omega) | fail)
  · obtain rfl : n = sToken := hc
    refine At.end0 ?_
    unfold setS
    rw [if_pos rfl]
    try rw [ea]
    try rfl
  · obtain rfl : n = sUnit := hc
    refine At.end0 ?_
    unfold setS
    rw [if_neg (by decide), if_pos rfl]
    try rw [ea]
    try rfl
  · obtain rfl : n = sAt := hc
    refine At.end0 ?_
    unfold setS
    rw [if_neg (by decide), if_neg (by decide), if_pos rfl]
    try rfl
  · obtain rfl : n = sNew := hc
    refine At.end0 ?_
    unfold setS
    rw [if_neg (by decide), if_neg (by decide), if_neg (by decide), if_pos rfl]
    try rw [ea]
    try rfl
  · obtain rfl : n = sExpl := hc
    refine At.end0 ?_
    unfold setS
    rw [if_neg (by decide), if_neg (by decide), if_neg (by decide), if_neg (by decide), if_pos rfl]
    try rw [ea]
    try rfl
  · obtain rfl : n = sVer := hc
    refine At.end0 ?_
    unfold setS
    rw [if_neg (by decide), if_neg (by decide), if_neg (by decide), if_neg (by decide), if_neg (by decide), if_pos rfl]
    try rw [ea]
    try rfl
  · obtain rfl : n = sHit := hc
    refine At.end0 ?_
    unfold setS
    rw [if_neg (by decide), if_neg (by decide), if_neg (by decide), if_neg (by decide), if_neg (by decide), if_neg (by decide), if_pos rfl]
    try rw [ea]
    try rw [show decide (a = 1) = decide ((a : Int) = 1) from by rw [decide_eq_decide]; omega]
    try rfl
  · obtain rfl : n = sCost := hc
    refine At.end0 ?_
    unfold setS
    rw [if_neg (by decide), if_neg (by decide), if_neg (by decide), if_neg (by decide), if_neg (by decide), if_neg (by decide), if_neg (by decide), if_pos rfl]
    try rw [ea]
    try rfl
  · obtain rfl : n = sSettled := hc
    refine At.end0 ?_
    unfold setS
    rw [if_neg (by decide), if_neg (by decide), if_neg (by decide), if_neg (by decide), if_neg (by decide), if_neg (by decide), if_neg (by decide), if_neg (by decide), if_pos rfl]
    try rw [ea]
    try rfl
  · obtain rfl : n = sLeft := hc
    refine At.end0 ?_
    unfold setS
    rw [if_neg (by decide), if_neg (by decide), if_neg (by decide), if_neg (by decide), if_neg (by decide), if_neg (by decide), if_neg (by decide), if_neg (by decide), if_neg (by decide), if_pos rfl]
    try rw [ea]
    try rfl
  · obtain rfl : n = sUnits := hc
    refine At.end0 ?_
    unfold setS
    rw [if_neg (by decide), if_neg (by decide), if_neg (by decide), if_neg (by decide), if_neg (by decide), if_neg (by decide), if_neg (by decide), if_neg (by decide), if_neg (by decide), if_neg (by decide), if_pos rfl]
    try rw [ea]
    try rfl
  · obtain rfl : n = sCache := hc
    refine At.end0 ?_
    unfold setS
    rw [if_neg (by decide), if_neg (by decide), if_neg (by decide), if_neg (by decide), if_neg (by decide), if_neg (by decide), if_neg (by decide), if_neg (by decide), if_neg (by decide), if_neg (by decide), if_neg (by decide), if_pos rfl]
    try rw [ea]
    try rfl
  · obtain rfl : n = sSess := hc
    refine At.end0 ?_
    unfold setS
    rw [if_neg (by decide), if_neg (by decide), if_neg (by decide), if_neg (by decide), if_neg (by decide), if_neg (by decide), if_neg (by decide), if_neg (by decide), if_neg (by decide), if_neg (by decide), if_neg (by decide), if_neg (by decide), if_pos rfl]
    try rw [ea]
    try rfl
  · refine At.end0 ?_
    unfold setS
    (repeat' (first | rw [if_neg (by assumption)]))
    try rfl
end Go.Proofs.YtnaclkdjchnbpaaDoor
end
section
namespace Go.K
open Go Go.RowKit

theorem wanted_none {o : Oper} {y : Nat → Option Bool} (h : o.guard = none) : Region.wanted o y = true := by unfold Region.wanted; rw [h]
/-- Operations that differ in what is ahead of them alone, where it has been carried out. -/
structure Alike (L : Array Bool) (ops ops' : List Oper) : Prop where
  len : ops'.length = ops.length
  at_ : ∀ (i : Nat) (o : Oper), ops[i]? = some o → L.getD i false = false → o.guard = none ∧ ∃ o', ops'[i]? = some o' ∧ (∃ af, o' = { o with after := af }) ∧ (∀ j ∈ depsOf o, j ∈ depsOf o') ∧ (∀ j ∈ depsOf o', j ∈ depsOf o ∨ L.getD j false = true)
theorem Alike.set {L : Array Bool} {ops ops' : List Oper} {i : Nat} (h : Alike L ops ops') (hi : i < L.size) : Alike (L.setIfInBounds i true) ops ops' :=
  ⟨h.len, fun k o ho hl => by
    have hl' : L.getD k false = false := by
      rw [getD_set hi] at hl
      split at hl
      · cases hl
      · exact hl
    obtain ⟨h1, o', h2, h3, h4, h5⟩ := h.at_ k o ho hl'
    refine ⟨h1, o', h2, h3, h4, fun j hj => ?_⟩
    rcases h5 j hj with h6 | h6
    · exact .inl h6
    · refine .inr ?_
      rw [getD_set hi]
      split
      · rfl
      · exact h6⟩
theorem Alike.ready {L : Array Bool} {ops ops' : List Oper} (h : Alike L ops ops') {i : Nat} (hi : i ∈ Region.ready .any ops.toArray L) : i ∈ Region.ready .any ops'.toArray L := by
  obtain ⟨h1, o, ho, hd⟩ := mem_ready' hi
  obtain ⟨_, o', h2, _, _, h5⟩ := h.at_ i o ho (getD_tf h1)
  exact ready_of h1 h2 fun j hj => by
    rcases h5 j hj with h6 | h6
    · exact hd j h6
    · exact h6
theorem Alike.ready' {L : Array Bool} {ops ops' : List Oper} (h : Alike L ops ops') {i : Nat} (hi : i ∈ Region.ready .any ops'.toArray L) : i ∈ Region.ready .any ops.toArray L := by
  obtain ⟨h1, o', ho', hd⟩ := mem_ready' hi
  have hlt : i < ops.length := by have := (List.getElem?_eq_some_iff.1 ho').1; rw [h.len] at this; exact this
  have ho : ops[i]? = some ops[i] := List.getElem?_eq_getElem hlt
  obtain ⟨_, o2, h2, _, h4, _⟩ := h.at_ i _ ho (getD_tf h1)
  have e : o2 = o' := Option.some.inj (h2.symm.trans ho')
  subst e
  exact ready_of h1 ho fun j hj => hd j (h4 j hj)
theorem op_congr {F : Fence} {n : Nat} {P : Program} {ops ops' : List Oper} {Qx : Exit → Act → World → Prop} {i : Nat} {K : Act → World → Prop} {a : Act} {w : World} {o : Oper} {af} (ho : ops[i]? = some o) (ho' : ops'[i]? = some { o with after := af }) (hg : o.guard = none)
    (h : wpOpIn F n P ops'.toArray Qx i K a w) : wpOpIn F n P ops.toArray Qx i K a w := by
  unfold wpOpIn at h ⊢
  simp only [List.getElem?_toArray, ho, ho'] at h ⊢
  rw [if_pos (wanted_none (o := o) hg)]
  rw [if_pos (wanted_none (o := { o with after := af }) hg)] at h
  exact h
theorem any_congr {F : Fence} {n : Nat} {P : Program} {ops ops' : List Oper} {Qx : Exit → Act → World → Prop} : ∀ (f : Nat) (L : Array Bool) (a : Act) (w : World), Alike L ops ops' → L.size = ops.length →
    wpAnyIn F n P .any ops'.toArray Qx f L a w → wpAnyIn F n P .any ops.toArray Qx f L a w
  | 0, L, a, w, hA, _, h => ⟨List.eq_nil_iff_forall_not_mem.2 (fun i hi => (by have := hA.ready hi; rw [h.1] at this; cases this)), h.2⟩
  | f + 1, L, a, w, hA, hs, h => by
    refine ⟨fun he => h.1 (List.eq_nil_iff_forall_not_mem.2 (fun i hi => (by have := hA.ready' hi; rw [he] at this; cases this))), fun i hi => ?_⟩
    have h2 := h.2 i (hA.ready hi)
    obtain ⟨h1, o, ho, _⟩ := mem_ready' hi
    have hil : i < L.size := by rw [hs]; exact (List.getElem?_eq_some_iff.1 ho).1
    obtain ⟨hg, o', ho', ⟨af, rfl⟩, _⟩ := hA.at_ i o ho (getD_tf h1)
    exact wpOpIn_mono (fun a' w' h3 => any_congr f _ a' w' (hA.set hil) (by simpa using hs) h3) (op_congr ho ho' hg h2)

/-! ### Lists of operations that agree in what is asked of their order -/
structure SimO (ops ops' : List Oper) : Prop where
  len : ops'.length = ops.length
  at_ : ∀ (i : Nat) (o' : Oper), ops'[i]? = some o' → ∃ o : Oper, ops[i]? = some o ∧ o.dst = o'.dst ∧ depsOf o = depsOf o' ∧ namesOf ops o = namesOf ops' o'
theorem SimO.fwd {ops ops' : List Oper} (h : SimO ops ops') {i : Nat} {o : Oper} (ho : ops[i]? = some o) : ∃ o', ops'[i]? = some o' ∧ o.dst = o'.dst ∧ depsOf o = depsOf o' ∧ namesOf ops o = namesOf ops' o' := by
  have hlt : i < ops'.length := by rw [h.len]; exact (List.getElem?_eq_some_iff.1 ho).1
  have ho' : ops'[i]? = some ops'[i] := List.getElem?_eq_getElem hlt
  obtain ⟨o2, h1, h2⟩ := h.at_ i _ ho'
  have e : o2 = o := Option.some.inj (h1.symm.trans ho)
  subst e
  exact ⟨_, ho', h2⟩
theorem SimO.bef {ops ops' : List Oper} (h : SimO ops ops') {k i : Nat} (hb : Bef ops k i) : Bef ops' k i := by
  obtain ⟨n, hn⟩ := hb
  have key : ∀ n i, BefN ops n k i → BefN ops' n k i := by
    intro n
    induction n with
    | zero =>
      rintro i ⟨o, h1, h2⟩
      obtain ⟨o', h3, _, h4, _⟩ := h.fwd h1
      exact ⟨o', h3, by rw [← h4]; exact h2⟩
    | succ n ih =>
      rintro i ⟨o, j, h1, h2, h3⟩
      obtain ⟨o', h4, _, h5, _⟩ := h.fwd h1
      exact ⟨o', j, h4, by rw [← h5]; exact h2, ih j h3⟩
  exact ⟨n, key n i hn⟩
theorem SimO.chk {ops ops' : List Oper} {cs : List Nat} (h : SimO ops ops') (hC : ChkM ops cs) : ChkM ops' cs := by
  refine ⟨by rw [h.len]; exact hC.le, hC.c3, fun i o' ho' j hj => ?_, fun i o' k ok' s hi hk ho' hok' hs hne hn => ?_, fun i o' k hi ho' hk => ?_, fun i o' hi ho' hh j hj => ?_, fun i k hi hh hk hlt => h.bef (hC.chain i k hi hh hk hlt), fun i k hi h3 hk h0 => h.bef (hC.early i k hi h3 hk h0)⟩
  · obtain ⟨o, h1, _, h3, _⟩ := h.at_ i o' ho'
    exact hC.low i o h1 j (by rw [h3]; exact hj)
  · obtain ⟨o, h1, h2, _, h4⟩ := h.at_ i o' ho'
    obtain ⟨ok, h5, h6, _, _⟩ := h.at_ k ok' hok'
    have := hC.pair i o k ok s hi hk h1 h5 (by rw [h6]; exact hs) hne (by rw [h4, h2]; exact hn)
    split at this
    · rename_i hlt; rw [if_pos hlt]; exact h.bef this
    · rename_i hlt; rw [if_neg hlt]; exact h.bef this
  · obtain ⟨o, h1, _⟩ := h.at_ i o' ho'
    exact h.bef (hC.tail i o k hi h1 hk)
  · obtain ⟨o, h1, _, h3, _⟩ := h.at_ i o' ho'
    exact hC.head i o hi h1 hh j (by rw [h3]; exact hj)

theorem SimO.chT {ops ops' : List Oper} {cs : List Nat} (h : SimO ops ops') (hT : ChT ops cs) : ChT ops' cs := fun i o' k hi ho' hk => by
  obtain ⟨o, h1, _⟩ := h.at_ i o' ho'
  exact h.bef (hT i o k hi h1 hk)

/-! ### The statement with two effects -/
section
variable {C : Cx} {Q : KQ}
def noOp (l : List Oper) (q : Nat) (v : Value) : List Oper := match nth l q with
  | some o => l.set q { o with op := .assign (.const v) }
  | none => l
def depL (l : List Oper) (q p : Nat) : List Oper := match nth l q with
  | some o => l.set q { o with after := o.after.push { on := p, ground := .data } }
  | none => l
theorem noOp_eq {l : List Oper} {q : Nat} {v : Value} {o : Oper} (ho : l[q]? = some o) : noOp l q v = l.set q { o with op := .assign (.const v) } := by
  unfold noOp; rw [nth_eq, ho]
theorem depL_eq {l : List Oper} {q p : Nat} {o : Oper} (ho : l[q]? = some o) : depL l q p = l.set q { o with after := o.after.push { on := p, ground := .data } } := by
  unfold depL; rw [nth_eq, ho]
theorem cnt_set {L : Array Bool} {i m c : Nat} (hil : i < L.size) (him : i < m) (hun : L.getD i false = false) (hc : c + 1 = ((List.range m).filter fun k => !L.getD k false).length) : c = ((List.range m).filter fun k => !(L.setIfInBounds i true).getD k false).length := by
  have e1 : ((List.range m).filter fun k => !(L.setIfInBounds i true).getD k false) = ((List.range m).filter fun k => !L.getD k false).filter (fun k => k != i) := by
    rw [List.filter_filter]
    apply List.filter_congr
    intro k _
    rw [getD_set hil]
    by_cases e : k = i
    · subst e; simp
    · simp [e]
  have hmem : i ∈ (List.range m).filter fun k => !L.getD k false := List.mem_filter.2 ⟨List.mem_range.2 him, by simpa using hun⟩
  have hnd : ((List.range m).filter fun k => !L.getD k false).Nodup := List.nodup_range.filter _
  rw [e1, ← hnd.erase_eq_filter, List.length_erase_of_mem hmem]
  omega
theorem namesOf_none {ops : List Oper} {o : Oper} (h : o.guard = none) : namesOf ops o = tmpsOf o.op.operands.toList := by unfold namesOf; rw [h]
theorem guardOf_none {ops : List Oper} {L : Look} {o : Oper} (h : o.guard = none) : guardOf ops L o = some true := by unfold guardOf; rw [h]
theorem guardIn_none {ops : List Oper} {L : Look} {o : Oper} (h : o.guard = none) : guardIn ops L o = none := by unfold guardIn; rw [h]
def csA (p : Nat) : List Nat := List.replicate p 0 ++ [2, 2]
def csB (p : Nat) : List Nat := List.replicate p 0 ++ [2, 0]
theorem cls_lo (p : Nat) (r : List Nat) {k : Nat} (h : k < p) : clsAt (List.replicate p 0 ++ r) k = 0 := by
  unfold clsAt
  rw [nth_eq, List.getElem?_append_left (by simpa using h), List.getElem?_replicate, if_pos h]; try rfl
theorem cls_hi (p : Nat) (r : List Nat) {k : Nat} (h : p ≤ k) : clsAt (List.replicate p 0 ++ r) k = clsAt r (k - p) := by
  unfold clsAt
  rw [nth_eq, nth_eq, List.getElem?_append_right (by simpa using h), List.length_replicate]
theorem csA_len (p : Nat) : (csA p).length = p + 2 := by simp [csA]
theorem csB_len (p : Nat) : (csB p).length = p + 2 := by simp [csB]
theorem depL_len (l : List Oper) (q p : Nat) : (depL l q p).length = l.length := by unfold depL; split <;> simp
theorem noOp_len (l : List Oper) (q : Nat) (v : Value) : (noOp l q v).length = l.length := by unfold noOp; split <;> simp
theorem depL_ne {l : List Oper} {q p i : Nat} (h : i ≠ q) : (depL l q p)[i]? = l[i]? := by
  unfold depL
  split
  · rw [List.getElem?_set_ne (Ne.symm h)]
  · rfl
theorem noOp_ne {l : List Oper} {q i : Nat} {v : Value} (h : i ≠ q) : (noOp l q v)[i]? = l[i]? := by
  unfold noOp
  split
  · rw [List.getElem?_set_ne (Ne.symm h)]
  · rfl
theorem depL_at {l : List Oper} {q p : Nat} {o : Oper} (ho : l[q]? = some o) : (depL l q p)[q]? = some { o with after := o.after.push { on := p, ground := .data } } := by
  rw [depL_eq ho, List.getElem?_set_self (List.getElem?_eq_some_iff.1 ho).1]
theorem noOp_at {l : List Oper} {q : Nat} {v : Value} {o : Oper} (ho : l[q]? = some o) : (noOp l q v)[q]? = some { o with op := .assign (.const v) } := by
  rw [noOp_eq ho, List.getElem?_set_self (List.getElem?_eq_some_iff.1 ho).1]
theorem deps_push {o : Oper} {p j : Nat} : j ∈ depsOf { o with after := o.after.push { on := p, ground := .data } } ↔ j ∈ depsOf o ∨ j = p := by
  have hb : Region.binds .any { on := p, ground := .data } = true := rfl
  unfold depsOf
  simp only [Array.toList_push, List.filter_append, List.map_append, List.mem_append, List.filter_cons, hb, if_true, List.filter_nil, List.map_cons, List.map_nil, List.mem_singleton]
theorem alikeA {l : List Oper} {p : Nat} {oq : Oper} {L : Array Bool} (hq : l[p + 1]? = some oq) (hgn : ∀ (i : Nat) (o : Oper), l[i]? = some o → o.guard = none) (hp : L.getD p false = true) : Alike L l (depL l (p + 1) p) :=
  ⟨depL_len _ _ _, fun i o ho hl => by
    refine ⟨hgn i o ho, ?_⟩
    by_cases e : i = p + 1
    · subst e
      obtain rfl := Option.some.inj (hq.symm.trans ho)
      refine ⟨_, depL_at hq, ⟨_, rfl⟩, fun j hj => deps_push.2 (.inl hj), fun j hj => ?_⟩
      rcases deps_push.1 hj with h1 | h1
      · exact .inl h1
      · subst h1; exact .inr hp
    · exact ⟨o, by rw [depL_ne e]; exact ho, ⟨o.after, rfl⟩, fun j hj => hj, fun j hj => .inl hj⟩⟩
theorem alikeB {l : List Oper} {p : Nat} {v : Value} {L : Array Bool} (hgn : ∀ (i : Nat) (o : Oper), l[i]? = some o → o.guard = none) (hp : L.getD (p + 1) false = true) : Alike L l (noOp l (p + 1) v) :=
  ⟨noOp_len _ _ _, fun i o ho hl => by
    refine ⟨hgn i o ho, ?_⟩
    have e : i ≠ p + 1 := fun e => by subst e; rw [hp] at hl; cases hl
    exact ⟨o, by rw [noOp_ne e]; exact ho, ⟨o.after, rfl⟩, fun j hj => hj, fun j hj => .inl hj⟩⟩
theorem hdA_lo {p k : Nat} (h : k < p) : hdB (csA p) k = true ∧ hdB (csB p) k = true ∧ clsAt (csA p) k = 0 ∧ clsAt (csB p) k = 0 := by
  have e1 := cls_lo p [2, 2] h
  have e2 := cls_lo p [2, 0] h
  unfold hdB csA csB
  rw [e1, e2]
  exact ⟨rfl, rfl, rfl, rfl⟩
theorem hdA_p (p : Nat) : hdB (csA p) p = false ∧ hdB (csB p) p = false := by
  have e1 := cls_hi p [2, 2] (Nat.le_refl p)
  have e2 := cls_hi p [2, 0] (Nat.le_refl p)
  unfold hdB csA csB
  rw [e1, e2, Nat.sub_self]
  exact ⟨rfl, rfl⟩
theorem hdA_q (p : Nat) : hdB (csA p) (p + 1) = false ∧ hdB (csB p) (p + 1) = true ∧ clsAt (csB p) (p + 1) = 0 := by
  have e1 := cls_hi p [2, 2] (Nat.le_succ p)
  have e2 := cls_hi p [2, 0] (Nat.le_succ p)
  unfold hdB csA csB
  rw [e1, e2, show p + 1 - p = 1 by omega]
  exact ⟨rfl, rfl, rfl⟩
/-- The frames when the second effect has been carried out first. -/
theorem runB {l : List Oper} {p dq : Nat} {oq : Oper} {σ : Heap} {gs : Nat → Bool} {vs : Nat → Value} {frs : Nat → Fr} {v : Value} (hq : l[p + 1]? = some oq) (hdq : oq.dst = some dq) (hdN : Nat.blt dq C.N = true) (hgn : ∀ (i : Nat) (o : Oper), l[i]? = some o → o.guard = none)
    (hRA : RunH C (depL l (p + 1) p) σ [] (csA p) gs vs frs) : RunH C (noOp l (p + 1) v) σ [] (csB p) (fun k => if k = p + 1 then true else gs k) (fun k => if k = p + 1 then v else vs k) (fun k => if k = p + 2 then (dq, true, v) :: frs (p + 2) else frs k) := by
  refine ⟨fun k o hk ho => ?_⟩
  rw [csB_len] at hk
  by_cases e : k = p + 1
  · subst e
    rw [noOp_at hq] at ho
    obtain rfl := Option.some.inj ho
    have h2 := (hRA.at_ (p + 1) _ (by rw [csA_len]; omega) (depL_at hq)).no (hdA_q p).1
    have hgq : oq.guard = none := hgn _ _ hq
    refine ⟨fun _ => ⟨.inl ?_, ?_, ?_, ?_⟩, fun e => by rw [(hdA_q p).2.1] at e; cases e⟩
    · rw [guardOf_none (show ({ oq with op := .assign (.const v) } : Oper).guard = none from hgq)]; simp
    · rw [hdq]; exact hdN
    · rw [if_pos rfl, if_pos rfl]
      exact qt_assign rfl rfl (fun _ => rfl)
    · show (if p + 1 + 1 = p + 2 then (dq, true, v) :: frs (p + 2) else frs (p + 1 + 1)) = pushFr oq.dst (if p + 1 = p + 1 then true else gs (p + 1)) (if p + 1 = p + 1 then v else vs (p + 1)) (if p + 1 = p + 2 then (dq, true, v) :: frs (p + 2) else frs (p + 1))
      have h3 : frs (p + 2) = frs (p + 1) := h2
      rw [if_pos rfl, if_pos rfl, if_pos rfl, if_neg (show ¬ p + 1 = p + 2 by omega), hdq, h3]; try rfl
  · rw [noOp_ne e] at ho
    have hst := hRA.at_ k o (by rw [csA_len]; omega) (by rw [depL_ne e]; exact ho)
    have hg := hgn _ _ ho
    have e1 : namesOf (noOp l (p + 1) v) o = namesOf (depL l (p + 1) p) o := by rw [namesOf_none hg, namesOf_none hg]
    rw [if_neg e, if_neg e, if_neg (by omega), if_neg (by omega)]
    by_cases hkp : k < p
    · obtain ⟨a1, a2, a3, a4⟩ := hdA_lo hkp
      obtain ⟨b1, b2, b3, b4⟩ := hst.yes a1
      refine ⟨fun _ => ⟨?_, b2, ?_, b4⟩, fun e => by rw [a2] at e; cases e⟩
      · rw [e1, guardOf_none hg]
        rw [guardOf_none hg, guardIn_none hg] at b1
        rcases b1 with b1 | b1
        · exact .inl b1
        · cases b1
      · rw [e1, a4]; rw [a3] at b3; exact b3
    · obtain rfl : k = p := by omega
      exact ⟨fun e => (by rw [(hdA_p k).2] at e; cases e), fun _ => hst.no (hdA_p k).1⟩
/-- What holds when the second effect has been carried out first. -/
theorem invB {l : List Oper} {p dq : Nat} {oq : Oper} {σ σ' : Heap} {gs : Nat → Bool} {vs : Nat → Value} {frm : Fr} {a0 a : Act} {w w' : World} {L : Array Bool} {v : Value} {KA KB : Fr → Heap → Prop} (hq : l[p + 1]? = some oq) (hdq : oq.dst = some dq) (hdN : Nat.blt dq C.N = true)
    (hI : InvM C (depL l (p + 1) p) σ [] (csA p) gs vs frm a0 KA L a w 0 false frm σ) (hp : L.getD p false = false) (hd : ∀ j ∈ depsOf oq, L.getD j false = true) (hs : Stp σ σ' w w') (hk : ∀ x ∈ σ, x ∈ σ')
    (hgo : KDM C (noOp l (p + 1) v) σ [] KB false (csB p) (noOp l (p + 1) v) ((dq, true, v) :: frm) σ') :
    InvM C (noOp l (p + 1) v) σ [] (csB p) (fun k => if k = p + 1 then true else gs k) (fun k => if k = p + 1 then v else vs k) ((dq, true, v) :: frm) a0 KB (L.setIfInBounds (p + 1) true) (a.put (some dq) v) w' 0 false ((dq, true, v) :: frm) σ' := by
  have hlt : p + 1 < l.length := (List.getElem?_eq_some_iff.1 hq).1
  have hil : p + 1 < L.size := by rw [hI.size, depL_len]; exact hlt
  have hmids : ∀ k, L.getD k false = true → k < p := fun k hk => by
    rcases Nat.lt_or_ge k p with h1 | h1
    · exact h1
    · rcases Nat.lt_or_ge k (p + 2) with h2 | h2
      · have e : hdB (csA p) k = false := by
          rcases (show k = p ∨ k = p + 1 by omega) with rfl | rfl
          · exact (hdA_p _).1
          · exact (hdA_q p).1
        have := (hI.mids k (by rw [csA_len]; exact h2) e).1 hk
        omega
      · rw [hI.pre k (by rw [csA_len]; exact h2)] at hk; cases hk
  have hokd : okDst C.N (some dq) = true := hdN
  have hset : ∀ k, (L.setIfInBounds (p + 1) true).getD k false = true → k = p + 1 ∨ (k < p ∧ L.getD k false = true) := fun k hk => by
    rw [getD_set hil] at hk
    by_cases e : k = p + 1
    · exact .inl e
    · rw [if_neg e] at hk; exact .inr ⟨hmids k hk, hk⟩
  have hno : ∀ k, k < p → ∀ o, (noOp l (p + 1) v)[k]? = some o → (depL l (p + 1) p)[k]? = some o := fun k hk o ho => by
    rw [noOp_ne (by omega)] at ho; rw [depL_ne (by omega)]; exact ho
  refine ⟨by rw [noOp_len]; simpa [depL_len] using hI.size, fun k o hk hl j hj => ?_, fun k hk => ?_, by rw [put_size]; exact hI.n, Nat.zero_le _, fun k hk hm => ?_, (fun h => by cases h), fun s k o hkh hl hk hks hmax => ?_, fun s k o g v' hkh hl hk hks hF => ?_, fun s _ => rfl, fun s hn => ?_, hI.own.step hs, (hI.defs.step hs).put, hI.hid.step hs, fun x hx => hk x hx, hgo⟩
  · rcases hset k hl with rfl | ⟨h1, h2⟩
    · rw [noOp_at hq] at hk
      obtain rfl := Option.some.inj hk
      have := hd j hj
      rw [getD_set hil]; split
      · rfl
      · exact this
    · have := hI.closed k o (hno k h1 o hk) h2 j hj
      rw [getD_set hil]; split
      · rfl
      · exact this
  · rw [csB_len] at hk
    rw [getD_set hil, if_neg (by omega)]
    exact hI.pre k (by rw [csA_len]; exact hk)
  · have hkp : k = p := by
      rw [csB_len] at hk
      rcases Nat.lt_or_ge k p with h1 | h1
      · rw [(hdA_lo h1).2.1] at hm; cases hm
      · rcases (show k = p ∨ k = p + 1 by omega) with h2 | h2
        · exact h2
        · subst h2; rw [(hdA_q p).2.1] at hm; cases hm
    subst hkp
    rw [getD_set hil, if_neg (by omega), hp]
    constructor
    · intro h; cases h
    · intro h; omega
  · rw [okDst_put hI.n hokd]
    by_cases e : k = p + 1
    · subst e
      rw [noOp_at hq] at hk
      obtain rfl := Option.some.inj hk
      have hks' : oq.dst = some s := hks
      rw [hdq] at hks'
      rw [if_pos hks']
      show some v = some (gv (if p + 1 = p + 1 then true else gs (p + 1)) (if p + 1 = p + 1 then v else vs (p + 1)))
      rw [if_pos rfl, if_pos rfl]; try rfl
    · rcases hset k hl with h1 | ⟨h1, h2⟩
      · exact absurd h1 e
      · have hne : ¬ (some dq = some s) := fun e2 => by
          have := (hmax (p + 1) _ (by rw [getD_set hil, if_pos rfl]) (noOp_at hq) (by show oq.dst = some s; rw [hdq]; exact e2)).2
          omega
        rw [if_neg hne]
        show a.tmps[s]? = some (gv (if k = p + 1 then true else gs k) (if k = p + 1 then v else vs k))
        rw [if_neg e, if_neg e]
        refine hI.wrote s k o (hdA_lo h1).1 h2 (hno k h1 o hk) hks (fun k' o' hl' hk' hs' => ?_)
        have h3 := hmids k' hl'
        refine ⟨(hdA_lo h3).1, (hmax k' o' (by rw [getD_set hil, if_neg (by omega)]; exact hl') (by rw [depL_ne (by omega)] at hk'; rw [noOp_ne (by omega)]; exact hk') hs').2⟩
  · rcases hset k hl with rfl | ⟨h1, _⟩
    · rw [(hdA_q p).2.1] at hkh; cases hkh
    · rw [(hdA_lo h1).2.1] at hkh; cases hkh
  · have hne : ¬ (some dq = some s) := fun e2 => hn (p + 1) _ (by rw [getD_set hil, if_pos rfl]) (noOp_at hq) (by show oq.dst = some s; rw [hdq]; exact e2)
    rw [okDst_put hI.n hokd, if_neg hne]
    refine hI.kept s fun k o hl hk => ?_
    have h3 := hmids k hl
    exact hn k o (by rw [getD_set hil, if_neg (by omega)]; exact hl) (by rw [depL_ne (by omega)] at hk; rw [noOp_ne (by omega)]; exact hk)
theorem any_P {l : List Oper} {p dq : Nat} {oq : Oper} {σ : Heap} {gs : Nat → Bool} {vs : Nat → Value} {frs : Nat → Fr} {a0 : Act} {Rq : Value → Heap → Prop} (hq : l[p + 1]? = some oq) (hdq : oq.dst = some dq) (hdN : Nat.blt dq C.N = true) (hgn : ∀ (i : Nat) (o : Oper), l[i]? = some o → o.guard = none)
    (hCA : ChkM (depL l (p + 1) p) (csA p)) (hTA : ChT (depL l (p + 1) p) (csA p)) (hCB : ∀ v, ChkM (noOp l (p + 1) v) (csB p)) (hTB : ∀ v, ChT (noOp l (p + 1) v) (csB p)) (hRA : RunH C (depL l (p + 1) p) σ [] (csA p) gs vs frs) (h0 : LOk (look (frs 0)) a0) (hn0 : (keys σ).Nodup) (hE : EO C (fun _ => none) σ oq Rq)
    (hB : ∀ v σ', Rq v σ' → (∀ x ∈ σ, x ∈ σ') ∧ KDM C (noOp l (p + 1) v) σ [] (fun fr σ => KO C (noOp l (p + 1) v) Q ((noOp l (p + 1) v).drop (p + 2)) fr σ) false (csB p) (noOp l (p + 1) v) ((dq, true, v) :: frs (p + 2)) σ') :
    ∀ (f c : Nat) (L : Array Bool) (a : Act) (w : World), c + 1 = ((List.range (p + 2)).filter fun i => !L.getD i false).length → f = c + 1 + (l.length - (p + 2)) → L.getD p false = false → L.getD (p + 1) false = false →
      InvM C (depL l (p + 1) p) σ [] (csA p) gs vs (frs (p + 2)) a0 (fun fr σ => KO C (depL l (p + 1) p) Q ((depL l (p + 1) p).drop (p + 2)) fr σ) L a w 0 false (frs (p + 2)) σ →
      wpAnyIn (fnc C.r) 0 C.P .any l.toArray (lift C Q) f L a w
  | 0, c, L, a, w, hc, hf, _, _, _ => by omega
  | f + 1, c, L, a, w, hc, hf, hp, hqn, hI => by
    have hlt : p + 1 < l.length := (List.getElem?_eq_some_iff.1 hq).1
    have hLs : L.size = l.length := by rw [hI.size, depL_len]
    have hany := any_mid hCA hTA hRA h0 hn0 (by simp [keys]) (fun p hp => by cases hp) (f + 1) (c + 1) L a w 0 false (frs (p + 2)) σ (by rw [csA_len]; exact hc) (by rw [csA_len, depL_len]; exact hf) (by rw [csA_len]; exact hI)
    have hsub : ∀ i, i ∈ Region.ready .any (depL l (p + 1) p).toArray L → i ∈ Region.ready .any l.toArray L := fun i hi => by
      obtain ⟨h1, o, ho, hd⟩ := mem_ready' hi
      by_cases e : i = p + 1
      · subst e
        rw [depL_at hq] at ho
        obtain rfl := Option.some.inj ho
        exact ready_of h1 hq fun j hj => hd j (deps_push.2 (.inl hj))
      · rw [depL_ne e] at ho
        exact ready_of h1 ho hd
    refine ⟨fun he => hany.1 (List.eq_nil_iff_forall_not_mem.2 (fun i hi => (by have := hsub i hi; rw [he] at this; cases this))), fun i hi => ?_⟩
    obtain ⟨h1, o, ho, hd⟩ := mem_ready' hi
    have hun := getD_tf h1
    have hil : i < L.size := by rw [hLs]; exact (List.getElem?_eq_some_iff.1 ho).1
    have hg := hgn i o ho
    rcases (show i < p ∨ i = p ∨ i = p + 1 ∨ p + 2 ≤ i by omega) with hip | hip | hip | hip
    · have hoA : (depL l (p + 1) p)[i]? = some o := by rw [depL_ne (by omega)]; exact ho
      obtain ⟨a1, _, a3, _⟩ := hdA_lo hip
      have him : i < (csA p).length := by rw [csA_len]; omega
      obtain ⟨g1, g2, g3, g4⟩ := (hRA.at_ i o him hoA).yes a1
      have hIl : InvM C (depL l (p + 1) p) σ [] (csA p) gs vs (frs (csA p).length) a0 (fun fr σ => KO C (depL l (p + 1) p) Q ((depL l (p + 1) p).drop (p + 2)) fr σ) L a w 0 false (frs (p + 2)) σ := by rw [csA_len]; exact hI
      have hL := InvM.namesH hCA hRA h0 hIl him a1 hoA hun hd
      have hown : Own C.E (hSel σ [] (clsAt (csA p) i)) w := by
        rw [a3]
        exact hI.own.take hn0 (fun p hp => hp)
      have hgi : gs i = true := by
        rw [guardOf_none hg, guardIn_none hg] at g1
        rcases g1 with g1 | g1
        · exact (Option.some.inj g1).symm
        · cases g1
      have hcnt := cnt_set (c := c) hil (by omega : i < p + 2) hun hc
      obtain ⟨c', rfl⟩ : ∃ c', c = c' + 1 := by
        have hmem : p ∈ (List.range (p + 2)).filter fun k => !(L.setIfInBounds i true).getD k false := List.mem_filter.2 ⟨List.mem_range.2 (by omega), by rw [getD_set hil, if_neg (by omega), hp]; rfl⟩
        have := List.length_pos_of_mem hmem
        exact ⟨c - 1, by omega⟩
      have hnext : ∀ w', Below w.heap.size w w' → wpAnyIn (fnc C.r) 0 C.P .any l.toArray (lift C Q) f (L.setIfInBounds i true) (a.put o.dst (gv (gs i) (vs i))) w' := fun w' hb =>
        any_P hq hdq hdN hgn hCA hTA hCB hTB hRA h0 hn0 hE hB f c' _ _ w' hcnt (by omega) (by rw [getD_set hil, if_neg (by omega)]; exact hp) (by rw [getD_set hil, if_neg (by omega)]; exact hqn) (hI.nextH hCA him a1 hoA hun hd g2 hb)
      unfold wpOpIn
      simp only [List.getElem?_toArray, ho]
      rw [if_pos (wanted_none hg)]
      rw [hgi] at g3
      refine (g3.eff hL hown).wpIn ?_
      rintro x w' ⟨rfl, hb⟩
      have := hnext w' hb
      rw [hgi] at this
      exact this
    · subst hip
      have hoA : (depL l (i + 1) i)[i]? = some o := by rw [depL_ne (by omega)]; exact ho
      have h2 := hany.2 i (ready_of h1 hoA hd)
      exact wpOpIn_mono (fun a' w' h3 => any_congr f _ a' w' (alikeA hq hgn (by rw [getD_set hil, if_pos rfl])) (by simpa using hLs) h3) (op_congr (af := o.after) ho hoA hg h2)
    · subst hip
      obtain rfl := Option.some.inj (hq.symm.trans ho)
      unfold wpOpIn
      simp only [List.getElem?_toArray, ho]
      rw [if_pos (wanted_none hg)]
      refine (hE a w (fun s g v h => by cases h) hI.own).wpIn ?_
      rintro v w' ⟨σ', hr, hs⟩
      obtain ⟨hk, hgo⟩ := hB v σ' hr
      have hIB := invB hq hdq hdN hI hp hd hs hk hgo
      have hcnt := cnt_set (c := c) hil (by omega : p + 1 < p + 2) hun hc
      have hRB := runB (C := C) (v := v) hq hdq hdN hgn hRA
      have hanyB := any_mid (hCB v) (hTB v) hRB (by show LOk (look (if 0 = p + 2 then (dq, true, v) :: frs (p + 2) else frs 0)) a0; rw [if_neg (by omega)]; exact h0) hn0 (by simp [keys]) (fun p hp => by cases hp) f c (L.setIfInBounds (p + 1) true) _ w' 0 false ((dq, true, v) :: frs (p + 2)) σ' (by rw [csB_len]; exact hcnt) (by rw [csB_len, noOp_len]; omega) (by rw [csB_len, if_pos (rfl : p + 2 = p + 2)]; exact hIB)
      rw [hdq]
      exact any_congr f _ _ w' (alikeB (v := v) hgn (by rw [getD_set hil, if_pos rfl])) (by simpa using hLs) hanyB
    · exfalso
      have hoA : (depL l (p + 1) p)[i]? = some o := by rw [depL_ne (by omega)]; exact ho
      have hb := hCA.tail i o p (by rw [csA_len]; exact hip) hoA (by rw [csA_len]; omega)
      have := hb.listed' hI.closed hoA hd
      rw [hp] at this; cases this
theorem KDM.unskip {ops : List Oper} {cs : List Nat} {σ0 ρ : Heap} {K : Fr → Heap → Prop} {h : Bool} {F : Fr} {σ : Heap} (hle : cs.length ≤ ops.length) : ∀ (n t : Nat), t + n ≤ cs.length → (∀ k, t ≤ k → k < t + n → hdB cs k = true) → KDM C ops σ0 ρ K h (cs.drop (t + n)) (ops.drop (t + n)) F σ → KDM C ops σ0 ρ K h (cs.drop t) (ops.drop t) F σ
  | 0, t, _, _, hk => hk
  | n + 1, t, ht, hh, hk => by
    have h1 : t < cs.length := by omega
    have h2 : t < ops.length := by omega
    rw [getI_drop_cls h1, List.drop_eq_getElem_cons h2]
    unfold KDM
    have h3 : Nat.ble (clsAt cs t) 1 = true := hh t (Nat.le_refl _) (by omega)
    rw [h3]
    exact KDM.unskip hle n (t + 1) (by omega) (fun k hk1 hk2 => hh k (by omega) (by omega)) (by rwa [show t + 1 + n = t + (n + 1) by omega])
theorem KDH.congr {ops ops' : List Oper} {σ0 ρ : Heap} {K : Fr → Prop} : ∀ (cs : List Nat) (l l' : List Oper) (fr : Fr), l'.length = l.length → (∀ (k : Nat) (o : Oper), l[k]? = some o → o.guard = none ∧ (hdB cs k = true → l'[k]? = some o)) → KDH C ops σ0 ρ K cs l fr → KDH C ops' σ0 ρ K cs l' fr
  | [], l, l', fr, _, _, h => by cases l <;> cases l' <;> (unfold KDH at h ⊢; exact h)
  | c :: cs, [], [], fr, _, _, h => by unfold KDH at h ⊢; exact h
  | c :: cs, [], _ :: _, fr, hl, _, h => by simp at hl
  | c :: cs, _ :: _, [], fr, hl, _, h => by simp at hl
  | c :: cs, o :: l, o' :: l', fr, hl, hk, h => by
    have hk' : ∀ (k : Nat) (x : Oper), l[k]? = some x → x.guard = none ∧ (hdB cs k = true → l'[k]? = some x) := fun k x hx => by
      have := hk (k + 1) x (by simpa using hx)
      exact ⟨this.1, fun e => by simpa using this.2 e⟩
    have hl' : l'.length = l.length := by simpa using hl
    unfold KDH at h ⊢
    cases hc : Nat.ble c 1 with
    | false =>
      rw [hc] at h
      exact KDH.congr cs l l' fr hl' hk' h
    | true =>
      rw [hc] at h
      obtain ⟨g, v, h1, h2, h3, h4⟩ := h
      obtain ⟨hg, he⟩ := hk 0 o rfl
      have e : o' = o := by have := he hc; simpa using this
      subst e
      refine ⟨g, v, ?_, h2, ?_, KDH.congr cs l l' _ hl' hk' h4⟩
      · rw [guardOf_none hg, guardIn_none hg] at h1 ⊢; exact h1
      · rw [namesOf_none hg] at h3 ⊢; exact h3
def chkP (l : List Oper) (p : Nat) : Bool :=
  chkM (depL l (p + 1) p) (csA p) && chkM (noOp l (p + 1) (.bool false)) (csB p) && l.all (fun o => o.guard.isNone) && (match nth l (p + 1) with | some o => (tmpsOf o.op.operands.toList).isEmpty | none => false)
/-- A statement whose order is open: quiet operations, then two effects in whichever order, then what is behind all. -/
theorem KW.drawP {id : Nat} {l tl : List Oper} {fr : Fr} {σ : Heap} {op oq : Oper} {dp dq : Nat} (p : Nat) (cs : List Nat) (hcs : csA p = cs) (hp : nth l p = some op) (hq : nth l (p + 1) = some oq) (hdp : op.dst = some dp) (hdq : oq.dst = some dq) (hNp : Nat.blt dp C.N = true) (hNq : Nat.blt dq C.N = true) (ht : dropL cs l = some tl) (hc : chkP l p = true)
    (h : KDH C l σ [] (fun fr' =>
      (∃ Rp, EO C (LR (namesOf l op) (look fr')) σ op Rp ∧ ∀ v σ1, Rp v σ1 → (∀ x ∈ σ, x ∈ σ1) ∧ ∃ Rq, EO C (fun _ => none) σ1 oq Rq ∧ ∀ v2 σ2, Rq v2 σ2 → (∀ x ∈ σ, x ∈ σ2) ∧ KO C (depL l (p + 1) p) Q tl ((dq, true, v2) :: (dp, true, v) :: fr') σ2) ∧
      (∃ Rq, EO C (fun _ => none) σ oq Rq ∧ ∀ v σ1, Rq v σ1 → (∀ x ∈ σ, x ∈ σ1) ∧ ∃ Rp, EO C (LR (namesOf l op) (look ((dq, true, v) :: fr'))) σ1 op Rp ∧ ∀ v2 σ2, Rp v2 σ2 → (∀ x ∈ σ, x ∈ σ2) ∧ KO C (noOp l (p + 1) v) Q tl ((dp, true, v2) :: (dq, true, v) :: fr') σ2)) cs l fr) : KW C Q (.region id l.toArray true) fr σ := by
  subst hcs
  rw [nth_eq] at hp hq
  unfold chkP at hc
  rw [nth_eq, hq] at hc
  simp only [Bool.and_eq_true, List.all_eq_true, Option.isNone_iff_eq_none, List.isEmpty_iff] at hc
  obtain ⟨⟨⟨hcA, hcB⟩, hgn0⟩, hnm⟩ := hc
  have hgn : ∀ (i : Nat) (o : Oper), l[i]? = some o → o.guard = none := fun i o ho => hgn0 o (List.mem_of_getElem? ho)
  have hCA := chkM_ok hcA
  have hCB0 := chkM_ok hcB
  have hgp := hgn _ _ hp
  have hgq := hgn _ _ hq
  have hTA := chkM_okT hcA
  have hTB0 := chkM_okT hcB
  have hSim : ∀ v, SimO (noOp l (p + 1) (.bool false)) (noOp l (p + 1) v) := fun v => by
    refine ⟨by rw [noOp_len, noOp_len], fun i o' ho' => ?_⟩
    by_cases e : i = p + 1
    · subst e
      rw [noOp_at hq] at ho'
      obtain rfl := Option.some.inj ho'
      refine ⟨_, noOp_at hq, rfl, rfl, ?_⟩
      rw [namesOf_none (show ({ oq with op := .assign (.const (.bool false)) } : Oper).guard = none from hgq), namesOf_none (show ({ oq with op := .assign (.const v) } : Oper).guard = none from hgq)]
      rfl
    · rw [noOp_ne e] at ho'
      refine ⟨o', by rw [noOp_ne e]; exact ho', rfl, rfl, ?_⟩
      rw [namesOf_none (hgn _ _ ho'), namesOf_none (hgn _ _ ho')]
  have hCB : ∀ v, ChkM (noOp l (p + 1) v) (csB p) := fun v => (hSim v).chk hCB0
  have hTB : ∀ v, ChT (noOp l (p + 1) v) (csB p) := fun v => (hSim v).chT hTB0
  have htl : l.drop (p + 2) = tl := by have := dropL_ok ht; rwa [csA_len] at this
  have hdA : (depL l (p + 1) p).drop (p + 2) = tl := by
    rw [← htl, depL_eq hq, List.drop_set, if_pos (by omega)]
  have hdB' : ∀ v, (noOp l (p + 1) v).drop (p + 2) = tl := fun v => by
    rw [← htl, noOp_eq hq, List.drop_set, if_pos (by omega)]
  have hltl : p + 1 < l.length := (List.getElem?_eq_some_iff.1 hq).1
  intro a w hS
  have h' := KDH.congr (ops' := depL l (p + 1) p) (csA p) l (depL l (p + 1) p) fr (depL_len _ _ _) (fun k o ho => ⟨hgn k o ho, fun hh => by
    have : k ≠ p + 1 := fun e => by subst e; rw [(hdA_q p).1] at hh; cases hh
    rw [depL_ne this]; exact ho⟩) h
  obtain ⟨gs, vs, frs, e1, e2, hAB, hBB⟩ := KDH.run (csA p) (depL l (p + 1) p) 0 fr (by simp) hCA.le (by simp) h'
  rw [Nat.zero_add, csA_len] at hAB hBB
  have hRA : RunH C (depL l (p + 1) p) σ [] (csA p) gs vs frs := ⟨fun k o hk ho => by simpa using e2 k o (Nat.zero_le _) (by omega) ho⟩
  obtain ⟨Rp, hEp, hgo⟩ := hAB
  obtain ⟨Rq, hEq, hgoB⟩ := hBB
  have hnr : ∀ {L : Look} {σ1 : Heap} {R : Value → Heap → Prop}, EO C (fun _ => none) σ1 oq R → EO C L σ1 oq R := fun hE a w _ hO => hE a w (fun s g v e => by cases e) hO
  have hopA : (depL l (p + 1) p)[p]? = some op := by rw [depL_ne (by omega)]; exact hp
  have hgoA : KDM C (depL l (p + 1) p) σ [] (fun fr σ => KO C (depL l (p + 1) p) Q ((depL l (p + 1) p).drop (p + 2)) fr σ) false (csA p) (depL l (p + 1) p) (frs (p + 2)) σ := by
    refine KDM.unskip (cs := csA p) hCA.le p 0 (by rw [csA_len]; omega) (fun k _ hk => (hdA_lo (by omega)).1) ?_
    rw [Nat.zero_add]
    have c1 : (csA p).drop p = [2, 2] := by unfold csA; rw [List.drop_left' (by simp)]
    have c2 : (depL l (p + 1) p).drop p = op :: { oq with after := oq.after.push { on := p, ground := .data } } :: tl := by
      rw [List.drop_eq_getElem_cons (by rw [depL_len]; omega), List.drop_eq_getElem_cons (by rw [depL_len]; omega), hdA]
      have d1 : (depL l (p + 1) p)[p]'(by rw [depL_len]; omega) = op := by
        have := List.getElem?_eq_getElem (l := depL l (p + 1) p) (i := p) (by rw [depL_len]; omega)
        rw [hopA] at this; exact (Option.some.inj this).symm
      have d2 : (depL l (p + 1) p)[p + 1]'(by rw [depL_len]; omega) = { oq with after := oq.after.push { on := p, ground := .data } } := by
        have := List.getElem?_eq_getElem (l := depL l (p + 1) p) (i := p + 1) (by rw [depL_len]; omega)
        rw [depL_at hq] at this; exact (Option.some.inj this).symm
      rw [d1, d2]
    rw [c1, c2]
    unfold KDM
    show ∃ g R, _
    refine ⟨true, Rp, guardOf_none hgp, by rw [hdp]; exact hNp, fun _ => by rw [namesOf_none hgp] at hEp ⊢; exact hEp, (fun e => by cases e), fun v σ1 hr => ?_⟩
    obtain ⟨k1, Rq', hEq', k2⟩ := hgo v σ1 hr
    refine ⟨k1, ?_⟩
    unfold KDM
    show ∃ g R, _
    refine ⟨true, Rq', guardOf_none hgq, by show okDst C.N oq.dst = true; rw [hdq]; exact hNq, fun _ => hnr hEq', (fun e => by cases e), fun v2 σ2 hr2 => ?_⟩
    obtain ⟨k3, k4⟩ := k2 v2 σ2 hr2
    refine ⟨k3, ?_⟩
    unfold KDM
    rw [hdA]
    show KO C (depL l (p + 1) p) Q tl (pushFr oq.dst true v2 (pushFr op.dst true v (frs (p + 2)))) σ2
    rw [hdq, hdp]
    exact k4
  have hgoB' : ∀ v σ', Rq v σ' → (∀ x ∈ σ, x ∈ σ') ∧ KDM C (noOp l (p + 1) v) σ [] (fun fr σ => KO C (noOp l (p + 1) v) Q ((noOp l (p + 1) v).drop (p + 2)) fr σ) false (csB p) (noOp l (p + 1) v) ((dq, true, v) :: frs (p + 2)) σ' := fun v σ1 hr => by
    obtain ⟨k1, Rp', hEp', k2⟩ := hgoB v σ1 hr
    refine ⟨k1, ?_⟩
    refine KDM.unskip (cs := csB p) (hCB v).le p 0 (by rw [csB_len]; omega) (fun k _ hk => (hdA_lo (by omega)).2.1) ?_
    rw [Nat.zero_add]
    have c1 : (csB p).drop p = [2, 0] := by unfold csB; rw [List.drop_left' (by simp)]
    have c2 : (noOp l (p + 1) v).drop p = op :: { oq with op := .assign (.const v) } :: tl := by
      rw [List.drop_eq_getElem_cons (by rw [noOp_len]; omega), List.drop_eq_getElem_cons (by rw [noOp_len]; omega), hdB' v]
      have d1 : (noOp l (p + 1) v)[p]'(by rw [noOp_len]; omega) = op := by
        have := List.getElem?_eq_getElem (l := noOp l (p + 1) v) (i := p) (by rw [noOp_len]; omega)
        rw [noOp_ne (by omega), hp] at this; exact (Option.some.inj this).symm
      have d2 : (noOp l (p + 1) v)[p + 1]'(by rw [noOp_len]; omega) = { oq with op := .assign (.const v) } := by
        have := List.getElem?_eq_getElem (l := noOp l (p + 1) v) (i := p + 1) (by rw [noOp_len]; omega)
        rw [noOp_at hq] at this; exact (Option.some.inj this).symm
      rw [d1, d2]
    rw [c1, c2]
    unfold KDM
    show ∃ g R, _
    refine ⟨true, Rp', guardOf_none hgp, by rw [hdp]; exact hNp, fun _ => by rw [namesOf_none hgp] at hEp' ⊢; exact hEp', (fun e => by cases e), fun v2 σ2 hr2 => ?_⟩
    obtain ⟨k3, k4⟩ := k2 v2 σ2 hr2
    refine ⟨k3, ?_⟩
    unfold KDM
    show KDM C _ _ _ _ _ [] _ _ _
    unfold KDM
    rw [hdB' v]
    show KO C (noOp l (p + 1) v) Q tl (pushFr op.dst true v2 ((dq, true, v) :: frs (p + 2))) σ2
    rw [hdp]
    exact k4
  refine wpIn_region_any C.T.mixed ?_
  have hf : ∀ i, (Array.replicate l.toArray.size false).getD i false = false := fun i => by
    rw [Array.getD_eq_getD_getElem?]
    rcases Nat.lt_or_ge i l.length with h | h
    · simp [h]
    · simp [h]
  have hid : ∀ i, ¬ (Array.replicate l.toArray.size false).getD i false = true := fun i => by rw [hf]; simp
  refine any_P hq hdq hNq hgn hCA hTA hCB hTB hRA (by rw [e1]; exact hS.fr) hS.own.has.nodup hEq hgoB' _ (p + 1) _ a _ ?_ ?_ (hf _) (hf _) ⟨by simp [depL_len], fun i o ho hl => absurd hl (hid i), fun i _ => hf i, hS.n, Nat.zero_le _, fun i _ _ => ?_, (fun h => by cases h), fun s k o _ hl => absurd hl (hid k), fun s k o g v _ hl => absurd hl (hid k), fun s _ => rfl, fun s _ => rfl, ⟨hS.own.os, hS.own.tape, hS.own.output, hS.own.size, hS.own.old, ⟨hS.own.has.has, hS.own.has.nodup⟩, hS.own.new⟩, hS.defs, hS.hid, fun p hp => hp, hgoA⟩
  · have e : ((List.range (p + 2)).filter fun i => !(Array.replicate l.toArray.size false).getD i false) = List.range (p + 2) := by
      rw [List.filter_eq_self]; intro i _; rw [hf]; rfl
    rw [e]
    simp
  · simp
    omega
  · rw [hf]; simp
end
end Go.K
end
section
namespace Go.K
open Go Go.RowKit

section
variable {C : Cx} {Q : KQ}
def chkN (ops : List Oper) (cs : List Nat) : Bool :=
  let B := masks ops []
  let m := cs.length
  cs.all (fun c => Nat.ble c 3) && Nat.ble m ops.length &&
  (List.range ops.length).all (fun i => match nth ops i with
    | none => true
    | some o => (depsOf o).all (fun j => decide (j < i)) &&
      (if i < m then (List.range m).all (chkPair ops B i o) &&
        (if hdB cs i then (depsOf o).all (hdB cs) else (List.range i).all (fun k => hdB cs k || bit B i k)) &&
        (if Nat.beq (clsAt cs i) 3 then (List.range m).all (fun k => !(Nat.beq (clsAt cs k) 0) || (decide (k < i) && bit B i k)) else true)
      else (List.range m).all (fun k => bit B i k) && (List.range ops.length).all (fun k => Nat.blt k m || chkPair ops B i o k)))

theorem chkN_ok {ops : List Oper} {cs : List Nat} (h : chkN ops cs = true) : ChkM ops cs ∧ ChkB ops cs.length ops.length := by
  unfold chkN at h
  simp only [Bool.and_eq_true, List.all_eq_true, List.mem_range] at h
  obtain ⟨⟨hc, hle⟩, h⟩ := h
  have hle := Nat.le_of_ble_eq_true hle
  have key : ∀ i o, ops[i]? = some o → (∀ j ∈ depsOf o, j < i) ∧ (i < cs.length → (∀ k, k < cs.length → chkPair ops (masks ops []) i o k = true) ∧
      (if hdB cs i then (depsOf o).all (hdB cs) else (List.range i).all (fun k => hdB cs k || bit (masks ops []) i k)) = true ∧
      (clsAt cs i = 3 → ∀ k, k < cs.length → clsAt cs k = 0 → bit (masks ops []) i k = true)) ∧ (cs.length ≤ i → (∀ k, k < cs.length → bit (masks ops []) i k = true) ∧ ∀ k, cs.length ≤ k → k < ops.length → chkPair ops (masks ops []) i o k = true) := by
    intro i o ho
    have h1 := h i (List.getElem?_eq_some_iff.1 ho).1
    rw [nth_eq, ho] at h1
    simp only [Bool.and_eq_true, List.all_eq_true, decide_eq_true_eq] at h1
    refine ⟨h1.1, fun hi => ?_, fun hi => ?_⟩
    · have h2 := h1.2
      rw [if_pos hi] at h2
      simp only [Bool.and_eq_true, List.all_eq_true, List.mem_range] at h2
      refine ⟨fun k hk => h2.1.1 k hk, h2.1.2, fun h3 k hk h0 => ?_⟩
      have h4 := h2.2
      rw [h3, if_pos (show Nat.beq 3 3 = true from rfl)] at h4
      have h5 := List.all_eq_true.1 h4 k (List.mem_range.2 hk)
      rw [h0] at h5
      have h6 : (decide (k < i) && bit (masks ops []) i k) = true := by simpa using h5
      rw [Bool.and_eq_true] at h6; exact h6.2
    · have h2 := h1.2
      rw [if_neg (by omega)] at h2
      simp only [Bool.and_eq_true, List.all_eq_true, List.mem_range] at h2
      refine ⟨h2.1, fun k hk hk2 => ?_⟩
      have h3 := h2.2 k hk2
      have e : Nat.blt k cs.length = false := by
        cases hb : Nat.blt k cs.length with
        | false => rfl
        | true =>
          have h7 := Nat.le_of_ble_eq_true hb
          omega
      rw [e] at h3
      simpa using h3
  refine ⟨⟨hle, fun k hk => ?_, fun i o ho => (key i o ho).1, fun i o k ok s hi hk ho hok hs hne hn => chkPair_ok (((key i o ho).2.1 hi).1 k hk) hok hs hne hn, fun i o k hi ho hk => bit_ok (((key i o ho).2.2 hi).1 k hk), fun i o hi ho hh j hj => ?_, fun i k hi hh hk hlt => ?_, fun i k hi h3 hk h0 => ?_⟩,
    ⟨fun i o ho => (key i o ho).1, fun i o k ok s hi _ hk hk2 ho hok hs hne hn => chkPair_ok (((key i o ho).2.2 hi).2 k hk hk2) hok hs hne hn, fun i o k hi ho _ _ => ?_⟩⟩
  · have : cs[k]? = some cs[k] := List.getElem?_eq_getElem hk
    unfold clsAt
    rw [nth_eq, this]
    exact Nat.le_of_ble_eq_true (hc _ (List.getElem_mem hk))
  · have h2 := ((key i o ho).2.1 hi).2.1
    rw [if_pos hh] at h2
    exact List.all_eq_true.1 h2 j hj
  · have ho : ops[i]? = some ops[i] := List.getElem?_eq_getElem (by omega)
    have h2 := ((key i _ ho).2.1 hi).2.1
    rw [if_neg (by rw [hh]; simp)] at h2
    have h3 := List.all_eq_true.1 h2 k (List.mem_range.2 hlt)
    rw [hk] at h3
    exact bit_ok (by simpa using h3)
  · have ho : ops[i]? = some ops[i] := List.getElem?_eq_getElem (by omega)
    exact bit_ok (((key i _ ho).2.1 hi).2.2 h3 k hk h0)
  · have := (List.getElem?_eq_some_iff.1 ho).1
    omega

/-- A statement whose order is open, with effects in it ('cs' as for KW.drawM), and behind all effects n quiet operations in whatever order. -/
theorem KW.drawN {id : Nat} {l : List Oper} {fr : Fr} {σ ρ : Heap} (cs js : List Nat) (n : Nat) (hc : chkN l cs = true) (hs : selA js σ = some ρ) (hn : nodupB js = true) (hl : Nat.beq l.length (cs.length + n) = true) {tl : List Oper} (ht : dropL cs l = some tl)
    (h : KDH C l σ ρ (fun fr => KDM C l σ ρ (fun fr σ => KD C l Q σ n tl fr) false cs l fr σ) cs l fr) : KW C Q (.region id l.toArray true) fr σ := by
  intro a w hS
  obtain ⟨hC, hC2⟩ := chkN_ok hc
  have hlen := Nat.eq_of_beq_eq_true hl
  have hle := hC.le
  rw [← dropL_ok ht] at h
  obtain ⟨gs, vs, frs, e1, e2, e3⟩ := KDH.run cs l 0 fr (by simp) hle (by simp) h
  rw [Nat.zero_add] at e3
  have hR : RunH C l σ ρ cs gs vs frs := ⟨fun k o hk ho => e2 k o (Nat.zero_le _) (by omega) ho⟩
  refine wpIn_region_any C.T.mixed ?_
  have hf : ∀ i, (Array.replicate l.toArray.size false).getD i false = false := fun i => by
    rw [Array.getD_eq_getD_getElem?]
    rcases Nat.lt_or_ge i l.length with h | h
    · simp [h]
    · simp [h]
  have hsub := Sl.sub ⟨hs, hn⟩ hS.own.has
  have hid : ∀ i, ¬ (Array.replicate l.toArray.size false).getD i false = true := fun i => by rw [hf]; simp
  refine any_midG hC hR (by rw [e1]; exact hS.fr) hS.own.has.nodup hsub.2 hsub.1 ?_ _ _ _ a _ 0 false _ σ rfl ?_ ⟨by simp, fun i o ho hl => absurd hl (hid i), fun i _ => hf i, hS.n, Nat.zero_le _, fun i _ _ => ?_, (fun h => by cases h), fun s k o _ hl => absurd hl (hid k), fun s k o g v _ hl => absurd hl (hid k), fun s _ => rfl, fun s _ => rfl, ?_, hS.defs, hS.hid, ?_, e3⟩
  · -- behind all effects
    intro L a w F σ' hLs hL hk hS2
    have hf1 : l.length - cs.length = n := by omega
    rw [hf1]
    obtain ⟨gs2, vs2, frs2, f1, f2, f3, f4⟩ := KD.run n (l.drop cs.length) cs.length _ (fun j => by simp) hk
    have hR2 : RunB C l σ' cs.length l.length gs2 vs2 frs2 := ⟨fun k o hk1 hk2 ho => f3 k o hk1 (by omega) ho⟩
    refine any_headB hC2 (by omega) (Nat.le_refl _) hR2 (by rw [f1]; exact hS2.fr) ?_ _ n _ _ _ ?_ (by omega) ⟨hLs, fun k ok hk hl j hj => ?_, fun k hk => ?_, fun k hk => ?_, hS2.n, fun s k ok hk hl hok => ?_, fun s _ => rfl, hS2.own, hS2.defs, hS2.hid⟩
    · intro L a w hLs hL hS
      rw [Nat.sub_self]
      refine ⟨List.eq_nil_iff_forall_not_mem.2 fun i hi => ?_, ?_⟩
      · obtain ⟨h1, o, ho, _⟩ := mem_ready' hi
        have := hL i
        rw [getD_tf h1] at this
        have hlt := (List.getElem?_eq_some_iff.1 ho).1
        simp [hlt] at this
      · have e : (l.drop cs.length).drop n = [] := by rw [List.drop_drop]; exact List.drop_eq_nil_of_le (by omega)
        rw [e, show cs.length + n = l.length by omega] at f4
        have := f4 a w hS
        simpa [wpListIn] using this
    · simp only [hL]
      have e : List.range l.length = List.range cs.length ++ (List.range n).map (fun x => cs.length + x) := by rw [hlen, List.range_add]
      rw [e, List.filter_append, List.length_append]
      have e1 : (List.range cs.length).filter (fun k => !decide (k < cs.length)) = [] := by
        rw [List.filter_eq_nil_iff]; intro k hk; have := List.mem_range.1 hk; simp [this]
      have e2 : ((List.range n).map (fun x => cs.length + x)).filter (fun k => !decide (k < cs.length)) = (List.range n).map (fun x => cs.length + x) := by
        rw [List.filter_eq_self]; intro k hk
        obtain ⟨x, _, rfl⟩ := List.mem_map.1 hk
        simp
      rw [e1, e2]
      simp
    · rw [hL] at hl ⊢
      have := hC.low k ok hk j hj
      simp only [decide_eq_true_eq] at hl ⊢
      omega
    · rw [hL]; simpa using hk
    · rw [hL]; simp; omega
    · rw [hL] at hl
      simp only [decide_eq_true_eq] at hl
      omega
  · have e : ((List.range cs.length).filter fun i => !(Array.replicate l.toArray.size false).getD i false) = List.range cs.length := by
      rw [List.filter_eq_self]; intro i _; rw [hf]; rfl
    rw [e]
    simp
    omega
  · rw [hf]; simp
  · exact ⟨hS.own.os, hS.own.tape, hS.own.output, hS.own.size, hS.own.old, ⟨hS.own.has.has, hS.own.has.nodup⟩, hS.own.new⟩
  · exact fun p hp => hp
end
end Go.K
end
section
namespace Go.Proofs.YtnaclkdjchnbpaaDoor
open Go Go.K

/-- Moves, as they lie. -/
def MvR (β : Nat → Option Obj) (mv : Value) (ms : List Nat) (μ : Heap) : Prop :=
  ∃ p c, mv = .slice p ms.length c ∧ SL β μ 1 ms.length (by8 ms) p ∧ (p = none → c = 0 ∧ ms.length = 0) ∧ ms.length ≤ c
theorem MvR.nil (β : Nat → Option Obj) : MvR β (.slice none 0 0) [] [] := ⟨none, 0, rfl, ⟨rfl, fun h => by simp at h⟩, fun _ => ⟨rfl, rfl⟩, Nat.le_refl _⟩
/-- Moves taken. -/
def movT (z : List Nat × Flt) (name : ByteArray) : (List Nat × Flt) × List Nat :=
  let q := tkF1 z (name, 4)
  match q.1.2 with
  | some y => ((q.1.1, some y), [])
  | none => if 65535 < q.2 then ((q.1.1, some (name, 12)), []) else if q.1.1.length < q.2 then ((q.1.1, some (name, 17)), [])
    else ((q.1.1.drop q.2, if (q.1.1.take q.2).all (fun m => decide (m ≤ 3)) then none else some (name, 10)), q.1.1.take q.2)
theorem wrongT_p (β : Nat → Option Obj) (bf : Nat) (n what : ByteArray) (e : Int) {z : List Nat × Flt} {σ : Heap} (hf : FormT β bf what z σ) :
    Go.K.Tr Tryd.prog 53 [.pointer (some ⟨bf, 0, none⟩), .string n, .int .i64 e] β σ (fun _ σ' => FormT β bf what (z.1, note z.2 n e) σ') := by
  obtain ⟨⟨wv, rv, dv, ev, φ, ε, hF, hE, rfl⟩, hb⟩ := hf
  refine (wrong_p β bf n what e wv rv dv ev z.2 ε φ hE).mono ?_
  rintro _ _ ⟨ev', ε', hE', rfl⟩
  exact ⟨⟨_, _, _, _, _, _, hF, hE', rfl⟩, hb⟩
theorem FormT.err0 {β : Nat → Option Obj} {bf : Nat} {what : ByteArray} {o : List Nat} {σ σ' : Heap} (h : FormT β bf what (o, none) σ) (hs : ∀ q ∈ σ, q ∈ σ') : Cel β σ' bf (0 + 4) .nilIface := by
  obtain ⟨⟨wv, rv, dv, ev, φ, ε, hF, ⟨rfl, rfl⟩, rfl⟩, hb⟩ := h
  exact .inl ⟨_, _, hs _ (List.Mem.head _), rfl⟩
theorem FormT.err1 {β : Nat → Option Obj} {bf : Nat} {what : ByteArray} {o : List Nat} {y : ByteArray × Int} {σ : Heap} (h : FormT β bf what (o, some y) σ) : ∃ v, ∀ σ', (∀ q ∈ σ, q ∈ σ') → Cel β σ' bf (0 + 4) (.iface 100 v) := by
  obtain ⟨⟨wv, rv, dv, ev, φ, ε, hF, ⟨b, c, rfl, rfl⟩, rfl⟩, hb⟩ := h
  exact ⟨_, fun σ' hs => .inl ⟨_, _, hs _ (List.Mem.head _), rfl⟩⟩
theorem FormT.rd {β : Nat → Option Obj} {bf : Nat} {what : ByteArray} {z : List Nat × Flt} {σ : Heap} (h : FormT β bf what z σ) : ∃ br, ∀ σ', (∀ q ∈ σ, q ∈ σ') → Cel β σ' bf (0 + 2) (.pointer (some ⟨br, 0, none⟩)) := by
  obtain ⟨⟨wv, rv, dv, ev, φ, ε, ⟨rfl, rfl, br, p, c, ψ, rfl, rfl, _⟩, hE, rfl⟩, hb⟩ := h
  exact ⟨br, fun σ' hs => .inl ⟨_, _, hs _ (List.Mem.head _), rfl⟩⟩
set_option maxHeartbeats 8000000 in
theorem movesT_p (β : Nat → Option Obj) (bf bn : Nat) (cs : List Value) (t : TypeId) (on : Nat) (what name : ByteArray) {z : List Nat × Flt} {σ : Heap} (hx : cs[on]? = some (.slice none 0 0)) (hf : FormT β bf what z σ) (hBz : Byt z.1) :
    Go.K.Tr Tryd.prog 72 [.pointer (some ⟨bf, 0, none⟩), .string name, .pointer (some ⟨bn, on, none⟩)] β ((bn, cl cs t) :: σ) (fun _ σ' => ∃ τ μ mv, FormT β bf what (movT z name).1 τ ∧ MvR β mv (movT z name).2 μ ∧ σ' = (bn, cl (cs.set on mv) t) :: (τ ++ μ)) := by
  refine Tr.sub ?_
  refine Tr.of_body Tryd.tt (args := [.pointer (some ⟨bf, 0, none⟩), .string name, .pointer (some ⟨bn, on, none⟩)]) (fr := [(0, true, .pointer (some ⟨bf, 0, none⟩)), (1, true, .string name), (2, true, .pointer (some ⟨bn, on, none⟩))]) Tryd.func72 rfl (by decide) rfl Tryd.ntmps72 rfl rfl ?_
  intro E hE
  subst hE
  obtain ⟨br, hrd⟩ := hf.rd
  have kx : ∀ σ', (bn, cl cs t) ∈ σ' → Cel E.β σ' bn on (.slice none 0 0) := fun σ' h => .inl ⟨cs, t, h, hx⟩
  have hbz := hf.b
  repeat' (first | refine KW.seq ?_ | refine KW.region ?_ | refine KO.nil ?_ | refine At.then_normal ?_ | refine KW.skip ?_ | refine KW.cond_f rfl (by first | with_reducible rfl ) ?_ | refine KO.skip' rfl (by first | with_reducible rfl ) rfl rfl ?_ | ((first | apply KO.val rfl rfl rfl ?kq ?_ ); (try (case ksub => (intro _ hp; first | exact hp | (cases hp; done) | (repeat (first | exact hp | apply List.mem_cons_of_mem | apply List.mem_append_right)) | (simp_all; done)))); (case kq => ((first | apply qt_ev rfl ?hi | apply qt_pick_f rfl rfl (by first | with_reducible rfl ) rfl ?hi | apply qt_eqs rfl rfl rfl ?hi rfl (Or.inl rfl) ); (case hi => (intro h; (repeat' (first | with_reducible exact alln | with_reducible refine allc ?_ ?_ | with_reducible refine andi ?_ ?_)); all_goals (first | with_reducible rfl )))))) | (refine KO.alloc rfl rfl rfl rfl rfl rfl ?_; intro _ _) | (apply KO.store (i := _) rfl rfl rfl rfl rfl rfl rfl rfl ?hl ?sg ?hw ?ho ?hs; (case sg => first | exact (rfl : getI 0 _ = _) ); (case hl => rfl); (case hw => rfl); (case ho => rfl); (case hs => rfl)) | ((first | apply KO.val (g := true) rfl rfl rfl ); (first | (apply qt_load1_cel rfl rfl ?hi rfl rfl ?hc; (case hc => first | exact fun _ => (kx _ (List.Mem.head _)) | exact fun _ => (hrd _ (fun q hq => List.mem_cons_of_mem _ (List.mem_cons_of_mem _ hq)))))); (case hi => (first | exact fun _ => rfl ))) | fail)
  rename_i b6 _
  refine KO.callF ((b6, cl [.int .i64 ((0 : Nat) : Int)] 3) :: σ) [(bn, cl cs t)] (by classical exact List.perm_iff_count.2 (fun _ => by first | (simp only [List.count_append, List.count_cons, List.count_nil, List.append_assoc, List.cons_append, List.nil_append]; omega))) rfl rfl rfl rfl rfl rfl rfl (numberT_p _ bf b6 [.int .i64 ((0 : Nat) : Int)] 3 0 what name 4 (by omega) (by omega) rfl hf) ?_
  rintro _ _ ⟨s, hs, rfl⟩
  have hBq : Byt (tkF1 z (name, 4)).1.1 := by
    rcases z with ⟨l, x⟩
    rcases x with _ | y
    · show Byt (tk1 (name, 4) l).2.1
      unfold tk1
      split
      · exact hBz.drop _
      · exact hBz
    · exact hBz
  have hN : (tkF1 z (name, 4)).2 < 4294967296 := by
    rcases z with ⟨l, x⟩
    rcases x with _ | y
    · show (tk1 (name, 4) l).2.2 < _
      unfold tk1
      split
      · have h1 := num_lt 4 (l.take 4) (by rw [List.length_take]; dsimp only at *; omega) (hBz.take _)
        exact h1
      · show (0 : Nat) < 4294967296; decide
    · show (0 : Nat) < 4294967296; decide
  have hmov : movT z name = (match (tkF1 z (name, 4)).1.2 with
    | some y => (((tkF1 z (name, 4)).1.1, some y), [])
    | none => if 65535 < (tkF1 z (name, 4)).2 then (((tkF1 z (name, 4)).1.1, some (name, 12)), []) else if (tkF1 z (name, 4)).1.1.length < (tkF1 z (name, 4)).2 then (((tkF1 z (name, 4)).1.1, some (name, 17)), [])
      else (((tkF1 z (name, 4)).1.1.drop (tkF1 z (name, 4)).2, if ((tkF1 z (name, 4)).1.1.take (tkF1 z (name, 4)).2).all (fun m => decide (m ≤ 3)) then none else some (name, 10)), (tkF1 z (name, 4)).1.1.take (tkF1 z (name, 4)).2)) := rfl
  have hsz : (tkF1 z (name, 4)).1.2 ≠ none → (tkF1 z (name, 4)).2 = 0 := by
    rcases z with ⟨l, x⟩
    rcases x with _ | y
    · show (tk1 (name, 4) l).1 ≠ none → (tk1 (name, 4) l).2.2 = 0
      unfold tk1
      split
      · exact fun h => absurd rfl h
      · exact fun _ => rfl
    · exact fun _ => rfl
  rcases hq : tkF1 z (name, 4) with ⟨⟨l, x⟩, N⟩
  rw [hq] at hs hBq hN hmov hsz
  dsimp only at hBq hN hmov hsz
  have hiN : iI N = (N : Int) := by unfold iI; rw [IntKind.wrap_i64]; omega
  dsimp only
  rw [hiN]
  refine KO.perm (σ' := (b6, cl [.int .i64 (N : Int)] 3) :: (bn, cl cs t) :: s) ?_ ?_
  · show List.Perm ((b6, cl [.int .i64 (N : Int)] 3) :: s ++ [(bn, cl cs t)]) _
    exact (by classical exact List.perm_iff_count.2 (fun _ => by first | (simp only [List.count_append, List.count_cons, List.count_nil, List.append_assoc, List.cons_append, List.nil_append]; omega)))
  rcases x with _ | y
  · have ke := fun σ' (h : ∀ q ∈ s, q ∈ σ') => hs.err0 h
    obtain ⟨br2, hrd2⟩ := hs.rd
    by_cases hbig : 65535 < N
    · have htr := trivial
      repeat' (first | refine KW.seq ?_ | refine KW.region ?_ | refine KO.nil ?_ | refine At.then_normal ?_ | refine KW.skip ?_ | refine KW.cond_t rfl (by first | decide) ?_ | refine KW.cond_f rfl (by first | decide) ?_ | ((first | apply KO.val rfl rfl rfl ?kq ?_ ); (try (case ksub => (intro _ hp; first | exact hp | (cases hp; done) | (repeat (first | exact hp | apply List.mem_cons_of_mem | apply List.mem_append_right)) | (simp_all; done)))); (case kq => ((first | apply qt_ev rfl ?hi | ((first | apply qt_load1 rfl rfl ?hi rfl rfl ?hm ?hc ); (case hm => repeat (first | exact List.Mem.head _ )); (case hc => rfl)) | apply qt_nes rfl rfl rfl ?hi rfl (Or.inl rfl) | apply qt_nes rfl rfl rfl ?hi rfl (Or.inr ⟨rfl, rfl, rfl⟩)); (case hi => (intro h; (repeat' (first | with_reducible exact alln | with_reducible refine allc ?_ ?_ | with_reducible refine andi ?_ ?_)); all_goals (first | with_reducible rfl )))))) | (refine KW.cond rfl ?_ ?_ <;> (intro hc; try simp only [kBool] at hc)) | ((first | apply KO.val (g := true) rfl rfl rfl ); (first | (apply qt_load1_cel rfl rfl ?hi rfl rfl ?hc; (case hc => first | exact fun _ => (ke _ (fun q hq => List.mem_cons_of_mem _ (List.mem_cons_of_mem _ hq))) | exact fun _ => (hrd2 _ (fun q hq => List.mem_cons_of_mem _ (List.mem_cons_of_mem _ hq)))))); (case hi => (first | exact fun _ => rfl ))) | (exfalso; omega) | fail)
      refine KO.callF s [(b6, cl [.int .i64 (N : Int)] 3), (bn, cl cs t)] (by classical exact List.perm_iff_count.2 (fun _ => by first | (simp only [List.count_append, List.count_cons, List.count_nil, List.append_assoc, List.cons_append, List.nil_append]; omega))) rfl rfl rfl rfl rfl rfl rfl (wrongT_p _ bf name what 12 hs) ?_
      rintro _ s2 hs2
      have hs3 : FormT E.β bf what (l, some (name, 12)) s2 := hs2
      refine KO.permS (σ' := (bn, cl cs t) :: s2) (φ := [(b6, cl [.int .i64 (N : Int)] 3)]) (by classical exact List.perm_iff_count.2 (fun _ => by first | (simp only [List.count_append, List.count_cons, List.count_nil, List.append_assoc, List.cons_append, List.nil_append]; omega))) ?_
      obtain ⟨v, ke2⟩ := hs3.err1
      repeat' (first | refine KW.seq ?_ | refine KW.region ?_ | refine KO.nil ?_ | refine At.then_normal ?_ | refine KW.ret ?_ | refine At.then_ret ?_ | refine KW.cond_t rfl (by first | decide) ?_ | ((first | apply KO.val rfl rfl rfl ?kq ?_ ); (try (case ksub => (intro _ hp; first | exact hp | (cases hp; done) | (repeat (first | exact hp | apply List.mem_cons_of_mem | apply List.mem_append_right)) | (simp_all; done)))); (case kq => ((first | apply qt_ev rfl ?hi | apply qt_nes rfl rfl rfl ?hi rfl (Or.inl rfl) ); (case hi => (intro h; (repeat' (first | with_reducible exact alln | with_reducible refine allc ?_ ?_ | with_reducible refine andi ?_ ?_)); all_goals (first | with_reducible rfl )))))) | ((first | apply KO.val (g := true) rfl rfl rfl ); (first | (apply qt_load1_cel rfl rfl ?hi rfl rfl ?hc; (case hc => first | exact fun _ => (ke2 _ (fun q hq => List.mem_cons_of_mem _ hq))))); (case hi => (first | exact fun _ => rfl ))) | fail)
      refine At.done_ret [] trivial ⟨_, List.Sublist.refl _, s2, [], .slice none 0 0, ?_, ?_, by rw [set_same hx, List.append_nil]⟩
      · rw [hmov, if_pos hbig]; exact hs3
      · rw [hmov, if_pos hbig]; exact MvR.nil _
    · have htr := trivial
      obtain ⟨⟨wv, rv, dv, ev, φ, ε, hF, hE0, rfl⟩, hb⟩ := hs
      obtain ⟨rfl, rfl⟩ := hE0
      obtain ⟨rfl, rfl, br, p, c, ψ, rfl, rfl, hBl, hlc, hpc, hsl⟩ := hF
      repeat' (first | refine KW.seq ?_ | refine KW.region ?_ | refine KO.nil ?_ | refine At.then_normal ?_ | refine KW.skip ?_ | refine KW.cond_t rfl (by first | decide) ?_ | refine KW.cond_f rfl (by first | decide) ?_ | ((first | apply KO.val rfl rfl rfl ?kq ?_ ); (try (case ksub => (intro _ hp; first | exact hp | (cases hp; done) | (repeat (first | exact hp | apply List.mem_cons_of_mem | apply List.mem_append_right)) | (simp_all; done)))); (case kq => ((first | apply qt_ev rfl ?hi | ((first | apply qt_load1 rfl rfl ?hi rfl rfl ?hm ?hc ); (case hm => repeat (first | exact List.Mem.head _ | apply List.Mem.tail _ )); (case hc => rfl)) | apply qt_nes rfl rfl rfl ?hi rfl (Or.inl rfl) | apply qt_nes rfl rfl rfl ?hi rfl (Or.inr ⟨rfl, rfl, rfl⟩)); (case hi => (intro h; (repeat' (first | with_reducible exact alln | with_reducible refine allc ?_ ?_ | with_reducible refine andi ?_ ?_)); all_goals (first | with_reducible rfl )))))) | (refine KW.cond rfl ?_ ?_ <;> (intro hc; try simp only [kBool] at hc)) | (exfalso; omega) | fail)
      refine KO.callF ((br, cl [.slice p l.length c] 126) :: ψ) [(b6, cl [.int .i64 (N : Int)] 3), (bn, cl cs t), (bf, cl [.string what, .slice none 0 0, .pointer (some ⟨br, 0, none⟩), (.func (.func (Md.take l).fn) #[.pointer (some ⟨bf, 0, none⟩)] #[]), .nilIface] 80)] (by classical exact List.perm_iff_count.2 (fun _ => by first | (simp only [List.count_append, List.count_cons, List.count_nil, List.append_assoc, List.cons_append, List.nil_append]; omega))) rfl rfl rfl rfl rfl rfl rfl (Rest_p _ ψ br l.length c (by8 l) p (hsl.mono (fun q hq => List.mem_cons_of_mem _ hq)) hpc (by8_one _) (by dsimp only at hb; omega)) ?_
      rintro _ _ ⟨b, rfl, rfl⟩
      refine KO.perm (σ' := (b6, cl [.int .i64 (N : Int)] 3) :: (bn, cl cs t) :: (bf, cl [.string what, .slice none 0 0, .pointer (some ⟨br, 0, none⟩), (.func (.func (Md.take l).fn) #[.pointer (some ⟨bf, 0, none⟩)] #[]), .nilIface] 80) :: (b, cl (by8 l) 5) :: (br, cl [.slice p l.length c] 126) :: ψ) (by classical exact List.perm_iff_count.2 (fun _ => by first | (simp only [List.count_append, List.count_cons, List.count_nil, List.append_assoc, List.cons_append, List.nil_append]; omega))) ?_
      by_cases hsh : l.length < N
      · have htr := trivial
        repeat' (first | refine KW.seq ?_ | refine KW.region ?_ | refine KO.nil ?_ | refine At.then_normal ?_ | refine KW.skip ?_ | refine KW.drawM (id := 11) [0, 1, 0, 0, 0, 0, 0, 0, 0, 0, 0, 3] [] (by decide +kernel) rfl rfl rfl ?_ | ((first | apply KO.val rfl rfl rfl ?kq ?_ | apply KDH.val0 rfl rfl rfl ?kq ?_ | apply KDH.val1 rfl rfl rfl ?kq ?_ ); (try (case ksub => (intro _ hp; first | exact hp | (cases hp; done) | (repeat (first | exact hp | apply List.mem_cons_of_mem | apply List.mem_append_right)) | (simp_all; done)))); (case kq => ((first | ((first | apply qt_sliceL rfl rfl rfl ?hi rfl rfl ?om | apply qt_sliceHM rfl rfl rfl rfl ?hi rfl rfl ?om); (case om => (intro hg; first | omega ))) | apply qt_ev rfl ?hi | ((first | apply qt_load1 rfl rfl ?hi rfl rfl ?hm ?hc ); (case hm => repeat (first | exact List.Mem.head _ )); (case hc => rfl)) ); (case hi => (intro h; (repeat' (first | with_reducible exact alln | with_reducible refine allc ?_ ?_ | with_reducible refine andi ?_ ?_)); all_goals (first | with_reducible rfl )))))) | (refine KW.cond rfl ?_ ?_ <;> (intro hc; try simp only [kBool] at hc)) | (exfalso; omega) | fail)
        · refine KO.callF ((bf, cl [.string what, .slice none 0 0, .pointer (some ⟨br, 0, none⟩), (.func (.func (Md.take l).fn) #[.pointer (some ⟨bf, 0, none⟩)] #[]), .nilIface] 80) :: ([] ++ [])) ((b6, cl [.int .i64 (N : Int)] 3) :: (bn, cl cs t) :: (b, cl (by8 l) 5) :: (br, cl [.slice p l.length c] 126) :: ψ) (by classical exact List.perm_iff_count.2 (fun _ => by first | (simp only [List.count_append, List.count_cons, List.count_nil, List.append_assoc, List.cons_append, List.nil_append]; omega))) rfl rfl rfl rfl rfl rfl rfl (wrong_p _ bf name what 17 _ _ _ .nilIface none [] [] ⟨rfl, rfl⟩) ?_
          rintro _ _ ⟨ev', ε', hE', rfl⟩
          rw [show note none name 17 = some (name, 17) by simp [note]] at hE'
          obtain ⟨b1, b2, rfl, rfl⟩ := hE'
          refine KO.permS (σ' := (bn, cl cs t) :: ((bf, cl [.string what, .slice none 0 0, .pointer (some ⟨br, 0, none⟩), (.func (.func (Md.take l).fn) #[.pointer (some ⟨bf, 0, none⟩)] #[]), .iface 100 (.pointer (some ⟨b1, 0, none⟩))] 80) :: ([(b1, cl [.string what, .iface 100 (.pointer (some ⟨b2, 0, none⟩))] 108), (b2, cl [.string name, .iface 32 (.int .i64 17)] 108)] ++ ((br, cl [.slice p l.length c] 126) :: ψ)))) (φ := (b6, cl [.int .i64 (N : Int)] 3) :: [(b, cl (by8 l) 5)]) (by classical exact List.perm_iff_count.2 (fun _ => by first | (simp only [List.count_append, List.count_cons, List.count_nil, List.append_assoc, List.cons_append, List.nil_append]; omega))) ?_
          repeat' (first | refine KO.nil ?_ | refine At.then_normal ?_ | refine KW.ret ?_ | refine At.then_ret ?_ | fail)
          refine At.done_ret [] trivial ⟨_, List.Sublist.refl _, (bf, cl [.string what, .slice none 0 0, .pointer (some ⟨br, 0, none⟩), (.func (.func (Md.take l).fn) #[.pointer (some ⟨bf, 0, none⟩)] #[]), .iface 100 (.pointer (some ⟨b1, 0, none⟩))] 80) :: ([(b1, cl [.string what, .iface 100 (.pointer (some ⟨b2, 0, none⟩))] 108), (b2, cl [.string name, .iface 32 (.int .i64 17)] 108)] ++ ((br, cl [.slice p l.length c] 126) :: ψ)), [], .slice none 0 0, ?_, ?_, by rw [set_same hx, List.append_nil]⟩
          · rw [hmov]
            dsimp only
            rw [if_neg hbig, if_pos hsh]
            exact ⟨⟨_, _, _, _, _, _, ⟨rfl, rfl, br, p, c, ψ, rfl, rfl, hBl, hlc, hpc, hsl⟩, ⟨b1, b2, rfl, rfl⟩, rfl⟩, hb⟩
          · rw [hmov]
            dsimp only
            rw [if_neg hbig, if_pos hsh]
            exact MvR.nil _
      · have htr := trivial
        repeat' (first | refine KW.seq ?_ | refine KW.region ?_ | refine KO.nil ?_ | refine At.then_normal ?_ | refine KW.skip ?_ | refine KW.drawM (id := 11) [0, 1, 0, 0, 0, 0, 0, 0, 0, 2, 2, 3] [] (by decide +kernel) rfl rfl rfl ?_ | refine KDH.mid2 ?_ | refine KDH.mid3 ?_ | refine KDH.done ?_ | refine KDM.head0 ?_ | refine KDM.head1 ?_ | ((first | apply KO.val rfl rfl rfl ?kq ?_ | apply KDH.val0 rfl rfl rfl ?kq ?_ | apply KDH.val1 rfl rfl rfl ?kq ?_ ); (try (case ksub => (intro _ hp; first | exact hp | (cases hp; done) | (repeat (first | exact hp | apply List.mem_cons_of_mem | apply List.mem_append_right)) | (simp_all; done)))); (case kq => ((first | ((first | apply qt_sliceL rfl rfl rfl ?hi rfl rfl ?om | apply qt_sliceHM rfl rfl rfl rfl ?hi rfl rfl ?om); (case om => (intro hg; first | omega ))) | apply qt_ev rfl ?hi | ((first | apply qt_load1 rfl rfl ?hi rfl rfl ?hm ?hc ); (case hm => repeat (first | exact List.Mem.head _ )); (case hc => rfl)) ); (case hi => (intro h; (repeat' (first | with_reducible exact alln | with_reducible refine allc ?_ ?_ | with_reducible refine andi ?_ ?_)); all_goals (first | with_reducible rfl )))))) | (refine KW.cond rfl ?_ ?_ <;> (intro hc; try simp only [kBool] at hc)) | (exfalso; omega) | fail)
        · have hNl : N ≤ l.length := by omega
          have hfull : ∀ σ, (b, cl (by8 l) 5) ∈ σ → SL E.β σ 1 l.length (by8 l) (some ⟨b, 0, none⟩) := fun σ h => SL.ofBlk h (by simp [by8_len])
          have hdl : (l.drop N).length = l.length - N := List.length_drop
          have hrest : ∀ σ, (b, cl (by8 l) 5) ∈ σ → SL E.β σ 1 (l.length - N) (by8 (l.drop N)) (adv 1 (some ⟨b, 0, none⟩) l.length N) := fun σ h => by
            have := SL.drop8 (hfull σ h) hNl (Nat.le_refl _)
            rwa [hdl] at this
          obtain ⟨P, hP⟩ : ∃ P, P = adv 1 (some ⟨b, 0, none⟩) N 0 := ⟨_, rfl⟩
          have htl : (l.take N).length = N := by rw [List.length_take]; exact Nat.min_eq_left hNl
          have hmv : ∀ σ, (b, cl (by8 l) 5) ∈ σ → SL E.β σ 1 N (by8 (l.take N)) P := fun σ h => by
            have h1 := SL.adv (c := N) (hfull σ h) (Nat.zero_le N) hNl (Nat.le_refl _)
            rw [hP]
            have e : ((by8 l).drop (0 * 1)).take ((N - 0) * 1) = by8 (l.take N) := by simp [by8]
            rw [e] at h1
            exact h1
          have hlt : on < cs.length := (List.getElem?_eq_some_iff.1 hx).1
          refine KDM.eo2f rfl rfl rfl (eo_callA rfl rfl rfl rfl (Read_p _ _ (l.length - N) (l.length - N) (by8 (l.drop N)) (adv 1 (some ⟨b, 0, none⟩) l.length N) (hrest _ (by simp)) (fun h => by unfold adv at h; split at h <;> cases h) (by8_one _) (by dsimp only at hb; omega))) ?_
          rintro _ _ ⟨bq, bw, rfl, hne, rfl⟩
          refine ⟨fun q hq => List.mem_cons_of_mem _ (List.mem_cons_of_mem _ hq), ?_⟩
          repeat' (first | ((first | apply KDM.q2f rfl rfl rfl ?kq ?ksub ?_ ); (try (case ksub => (intro _ hp; first | (repeat (first | exact hp | apply List.mem_cons_of_mem )) ))); (case kq => ((first | apply qt_ev rfl ?hi ); (case hi => (intro h; (repeat' (first | with_reducible exact alln | with_reducible refine allc ?_ ?_ )); all_goals (first | with_reducible rfl )))))) | fail)
          simp only [Int.toNat_natCast, Nat.sub_zero]
          rw [← hP]
          refine KDM.eo30 rfl rfl (eo_storeW (i := 3) (vs := [.slice P N N]) (cs' := cs.set on (.slice P N N)) rfl rfl rfl rfl rfl rfl rfl rfl (wr_set hlt) rfl) ?_
          rintro _ _ rfl
          refine ⟨(by intro p hp; cases hp), ?_⟩
          have kx2 : ∀ σ', (bn, cl (cs.set on (.slice P N N)) t) ∈ σ' → Cel E.β σ' bn on (.slice P N N) := fun σ' h => .inl ⟨_, _, h, List.getElem?_set_self hlt⟩
          repeat' (first | refine KW.seq ?_ | refine KW.region ?_ | refine KO.nil ?_ | refine At.then_normal ?_ | refine KW.block ?_ | refine KDM.fin ?_ | ((first | apply KO.val rfl rfl rfl ?kq ?_ ); (try (case ksub => (intro _ hp; first | exact hp | (cases hp; done) | (repeat (first | exact hp | apply List.mem_cons_of_mem | apply List.mem_append_right)) | (simp_all; done)))); (case kq => ((first | apply qt_ev rfl ?hi ); (case hi => (intro h; (repeat' (first | with_reducible exact alln | with_reducible refine allc ?_ ?_ )); all_goals (first | with_reducible rfl )))))) | (apply KO.store (i := _) rfl rfl rfl rfl rfl rfl rfl rfl ?hl ?sg ?hw ?ho ?hs; (case sg => first | exact (rfl : getI 4 _ = _) ); (case hl => rfl); (case hw => rfl); (case ho => rfl); (case hs => rfl)) | ((first | apply KO.val (g := true) rfl rfl rfl ); (first | (apply qt_load1_cel rfl rfl ?hi rfl rfl ?hc; (case hc => first | exact fun _ => (kx2 _ (List.Mem.tail _ (List.Mem.tail _ (List.Mem.tail _ (List.Mem.head _)))))))); (case hi => (first | exact fun _ => rfl ))) | fail)
          have hmov2 : movT z name = ((l.drop N, if (l.take N).all (fun m => decide (m ≤ 3)) then none else some (name, 10)), l.take N) := by
            rw [hmov]
            dsimp only
            rw [if_neg hbig, if_neg hsh]
          have hFH : FormH E.β bf (Md.take (l.drop N)) (.slice none 0 0) (.pointer (some ⟨bq, 0, none⟩)) ((.func (.func (Md.take l).fn) #[.pointer (some ⟨bf, 0, none⟩)] #[])) [(bq, cl [.slice (some ⟨bw, 0, none⟩) (l.length - N) (l.length - N)] 126), (bw, cl (by8 (l.drop N)) 5)] := ⟨rfl, rfl, bq, some ⟨bw, 0, none⟩, l.length - N, [(bw, cl (by8 (l.drop N)) 5)], rfl, by rw [hdl], hBl.drop _, by rw [hdl]; exact Nat.le_refl _, (by intro h; cases h), by rw [hdl]; exact SL.ofBlk (List.Mem.head _) (by simp [by8_len])⟩
          have hb2 : (l.drop N).length ≤ 900000 := by rw [hdl]; dsimp only at hb; omega
          refine KW.loop (fun j : Nat => j ≤ N ∧ ((l.take N).take j).all (fun m => decide (m ≤ 3)) = true) (fun j => ([(73, true, .int .i64 (j : Int)), (72, true, .int .i64 (N : Int)), (71, true, .slice P N N), (0, true, .pointer (some ⟨bf, 0, none⟩)), (1, true, .string name), (2, true, .pointer (some ⟨bn, on, none⟩))], (bn, cl (cs.set on (.slice P N N)) t) :: (bf, cl [.string what, .slice none 0 0, .pointer (some ⟨bq, 0, none⟩), (.func (.func (Md.take l).fn) #[.pointer (some ⟨bf, 0, none⟩)] #[]), .nilIface] 80) :: (bq, cl [.slice (some ⟨bw, 0, none⟩) (l.length - N) (l.length - N)] 126) :: (bw, cl (by8 (l.drop N)) 5) :: [(b, cl (by8 l) 5)])) (fun j => N - j) 0
            ⟨Nat.zero_le _, rfl⟩ (Le.permS (φ := (b6, cl [.int .i64 (N : Int)] 3) :: (br, cl [.slice p l.length c] 126) :: ψ) (by repeat' (first | exact FLe.nil _ | refine FLe.cons rfl rfl ?_)) (by classical exact List.perm_iff_count.2 (fun _ => by first | (simp only [List.count_append, List.count_cons, List.count_nil, List.append_assoc, List.cons_append, List.nil_append]; omega)))) ?_
          rintro j ⟨hj, hall⟩
          dsimp only
          by_cases hjn : j < N
          · have hmv2 := hmv ((bn, cl (cs.set on (.slice P N N)) t) :: (bf, cl [.string what, .slice none 0 0, .pointer (some ⟨bq, 0, none⟩), (.func (.func (Md.take l).fn) #[.pointer (some ⟨bf, 0, none⟩)] #[]), .nilIface] 80) :: (bq, cl [.slice (some ⟨bw, 0, none⟩) (l.length - N) (l.length - N)] 126) :: (bw, cl (by8 (l.drop N)) 5) :: [(b, cl (by8 l) 5)]) (by simp)
            obtain ⟨b1', o1, hP1, h1⟩ := hmv2.2 (by omega)
            subst hP1
            obtain ⟨x, hxx⟩ : ∃ z, (l.take N)[j]? = some z := ⟨_, List.getElem?_eq_getElem (by omega)⟩
            have hx256 : x < 256 := (hBl.take N) x (List.mem_of_getElem? hxx)
            repeat' (first | refine KW.seq ?_ | refine KW.region ?_ | refine KO.nil ?_ | refine At.then_normal ?_ | refine KW.skip ?_ | refine KW.block ?_ | refine KW.exit ?_ | refine At.then_exit ?_ | refine At.block_here rfl ?_ | refine At.loop_exit ?_ | refine KW.cond_f rfl (by first | with_reducible rfl ) ?_ | ((first | apply KO.val rfl rfl rfl ?kq ?_ ); (try (case ksub => (intro _ hp; first | exact hp | (cases hp; done) | (repeat (first | exact hp | apply List.mem_cons_of_mem | apply List.mem_append_right)) | (simp_all; done)))); (case kq => ((first | ((first | apply qt_add rfl rfl rfl ?hi ?om | apply qt_indexAddr_slice rfl rfl rfl ?hi rfl rfl ?om ); (case om => (intro hg; first | omega ))) | apply qt_ev rfl ?hi | ((first | apply qt_load1 rfl rfl ?hi rfl rfl ?hm ?hc ); (case hm => repeat (first | exact List.Mem.head _ | apply List.Mem.tail _ )); (case hc => rfl)) | apply qt_eqs rfl rfl rfl ?hi rfl (Or.inl rfl) ); (case hi => (intro h; (repeat' (first | with_reducible exact alln | with_reducible refine allc ?_ ?_ | with_reducible refine andi ?_ ?_)); all_goals (first | with_reducible rfl )))))) | (refine KW.cond rfl ?_ ?_ <;> (intro hc; try simp only [kBool] at hc)) | ((first | apply KO.val (g := true) rfl rfl rfl ); (first | (apply qt_load1_cel rfl rfl ?hi rfl rfl ?hc; (case hc => first | exact fun _ => (cel8 h1 hxx)))); (case hi => (first | exact fun _ => rfl ))) | (exfalso; omega) | fail)
            · have hx3 : 3 < x := by omega
              obtain ⟨hall2, htw⟩ := take_all hall hxx hx3
              refine KO.callF ((bf, cl [.string what, .slice none 0 0, .pointer (some ⟨bq, 0, none⟩), (.func (.func (Md.take l).fn) #[.pointer (some ⟨bf, 0, none⟩)] #[]), .nilIface] 80) :: ([] ++ [])) ((bn, cl (cs.set on (.slice (some ⟨b1', o1, none⟩) N N)) t) :: (bq, cl [.slice (some ⟨bw, 0, none⟩) (l.length - N) (l.length - N)] 126) :: (bw, cl (by8 (l.drop N)) 5) :: [(b, cl (by8 l) 5)]) (by classical exact List.perm_iff_count.2 (fun _ => by first | (simp only [List.count_append, List.count_cons, List.count_nil, List.append_assoc, List.cons_append, List.nil_append]; omega))) rfl rfl rfl rfl rfl rfl rfl (wrong_p _ bf name what 10 _ _ _ .nilIface none [] [] ⟨rfl, rfl⟩) ?_
              rintro _ _ ⟨ev', ε', hE', rfl⟩
              rw [show note none name 10 = some (name, 10) by simp [note]] at hE'
              obtain ⟨b1, b2, rfl, rfl⟩ := hE'
              refine KO.perm (σ' := (bn, cl (cs.set on (.slice (some ⟨b1', o1, none⟩) N N)) t) :: (((bf, cl [.string what, .slice none 0 0, .pointer (some ⟨bq, 0, none⟩), (.func (.func (Md.take l).fn) #[.pointer (some ⟨bf, 0, none⟩)] #[]), .iface 100 (.pointer (some ⟨b1, 0, none⟩))] 80) :: ([(b1, cl [.string what, .iface 100 (.pointer (some ⟨b2, 0, none⟩))] 108), (b2, cl [.string name, .iface 32 (.int .i64 10)] 108)] ++ [(bq, cl [.slice (some ⟨bw, 0, none⟩) (l.length - N) (l.length - N)] 126), (bw, cl (by8 (l.drop N)) 5)])) ++ [(b, cl (by8 l) 5)])) (by classical exact List.perm_iff_count.2 (fun _ => by first | (simp only [List.count_append, List.count_cons, List.count_nil, List.append_assoc, List.cons_append, List.nil_append]; omega))) ?_
              repeat' (first | refine KO.nil ?_ | refine At.then_normal ?_ | refine KW.ret ?_ | refine At.then_ret ?_ | refine At.block_ret ?_ | refine At.loop_ret ?_ | fail)
              refine At.done_ret [] trivial ⟨_, List.Sublist.refl _, (bf, cl [.string what, .slice none 0 0, .pointer (some ⟨bq, 0, none⟩), (.func (.func (Md.take l).fn) #[.pointer (some ⟨bf, 0, none⟩)] #[]), .iface 100 (.pointer (some ⟨b1, 0, none⟩))] 80) :: ([(b1, cl [.string what, .iface 100 (.pointer (some ⟨b2, 0, none⟩))] 108), (b2, cl [.string name, .iface 32 (.int .i64 10)] 108)] ++ [(bq, cl [.slice (some ⟨bw, 0, none⟩) (l.length - N) (l.length - N)] 126), (bw, cl (by8 (l.drop N)) 5)]), [(b, cl (by8 l) 5)], .slice (some ⟨b1', o1, none⟩) N N, ?_, ?_, rfl⟩
              · rw [hmov2, hall2]
                exact ⟨⟨_, _, _, _, _, _, hFH, ⟨b1, b2, rfl, rfl⟩, rfl⟩, hb2⟩
              · rw [hmov2]
                refine ⟨some ⟨b1', o1, none⟩, N, ?_, ?_, (by intro h; cases h), ?_⟩
                · rw [htl]
                · rw [htl]; exact hmv _ (List.Mem.head _)
                · rw [htl]; exact Nat.le_refl _
            · refine At.loop_on (j + 1) ⟨by omega, ?_⟩ (by omega) (Le.perm (by repeat' (first | exact FLe.nil _ | refine FLe.cons rfl rfl ?_)) (List.Perm.refl _))
              rw [List.take_add_one, hxx, List.all_append, hall]
              have : x ≤ 3 := by omega
              simp [this]
          · have hjm : j = N := by omega
            repeat' (first | refine KW.seq ?_ | refine KW.region ?_ | refine KO.nil ?_ | refine KW.skip ?_ | refine KW.block ?_ | refine KW.exit ?_ | refine At.then_exit ?_ | refine At.block_here rfl ?_ | refine At.loop_exit ?_ | ((first | apply KO.val rfl rfl rfl ?kq ?_ ); (try (case ksub => (intro _ hp; first | exact hp | (cases hp; done) | (repeat (first | exact hp | apply List.mem_cons_of_mem | apply List.mem_append_right)) | (simp_all; done)))); (case kq => ((first | apply qt_ev rfl ?hi ); (case hi => (intro h; (repeat' (first | with_reducible exact alln | with_reducible refine allc ?_ ?_ )); all_goals (first | with_reducible rfl )))))) | (refine KW.cond rfl ?_ ?_ <;> (intro hc; try simp only [kBool] at hc)) | (exfalso; omega) | fail)
            have hall2 : (l.take N).all (fun m => decide (m ≤ 3)) = true := by
              rw [← hall, hjm]
              congr 1
              exact (List.take_of_length_le (by omega)).symm
            refine At.end0 ⟨_, List.Sublist.refl _, (bf, cl [.string what, .slice none 0 0, .pointer (some ⟨bq, 0, none⟩), (.func (.func (Md.take l).fn) #[.pointer (some ⟨bf, 0, none⟩)] #[]), .nilIface] 80) :: [(bq, cl [.slice (some ⟨bw, 0, none⟩) (l.length - N) (l.length - N)] 126), (bw, cl (by8 (l.drop N)) 5)], [(b, cl (by8 l) 5)], .slice P N N, ?_, ?_, rfl⟩
            · rw [hmov2, hall2]
              exact ⟨⟨_, _, _, _, _, [], hFH, ⟨rfl, rfl⟩, rfl⟩, hb2⟩
            · rw [hmov2]
              refine ⟨P, N, ?_, ?_, ?_, ?_⟩
              · rw [htl]
              · rw [htl]; exact hmv _ (List.Mem.head _)
              · intro h
                rw [htl]
                rw [hP] at h
                unfold adv at h
                split at h <;> cases h
              · rw [htl]; exact Nat.le_refl _
  · obtain ⟨v, ke⟩ := hs.err1
    have hN0 : N = 0 := hsz (by simp)
    have htr := trivial
    repeat' (first | refine KW.seq ?_ | refine KW.region ?_ | refine KO.nil ?_ | refine At.then_normal ?_ | refine KW.skip ?_ | refine KW.ret ?_ | refine At.then_ret ?_ | refine KW.cond_t rfl (by first | decide) ?_ | ((first | apply KO.val rfl rfl rfl ?kq ?_ ); (try (case ksub => (intro _ hp; first | exact hp | (cases hp; done) | (repeat (first | exact hp | apply List.mem_cons_of_mem | apply List.mem_append_right)) | (simp_all; done)))); (case kq => ((first | apply qt_ev rfl ?hi | ((first | apply qt_load1 rfl rfl ?hi rfl rfl ?hm ?hc ); (case hm => repeat (first | exact List.Mem.head _ )); (case hc => rfl)) | apply qt_nes rfl rfl rfl ?hi rfl (Or.inl rfl) ); (case hi => (intro h; (repeat' (first | with_reducible exact alln | with_reducible refine allc ?_ ?_ | with_reducible refine andi ?_ ?_)); all_goals (first | with_reducible rfl )))))) | (refine KW.cond rfl ?_ ?_ <;> (intro hc; try simp only [kBool] at hc)) | ((first | apply KO.val (g := true) rfl rfl rfl ); (first | (apply qt_load1_cel rfl rfl ?hi rfl rfl ?hc; (case hc => first | exact fun _ => (ke _ (fun q hq => List.mem_cons_of_mem _ (List.mem_cons_of_mem _ hq))) ))); (case hi => (first | exact fun _ => rfl ))) | (exfalso; omega) | fail)
    refine At.done_ret [] trivial ⟨_, List.Sublist.cons _ (List.Sublist.refl _), s, [], .slice none 0 0, ?_, ?_, by rw [set_same hx, List.append_nil]⟩
    · rw [hmov]; exact hs
    · rw [hmov]; exact MvR.nil _
end Go.Proofs.YtnaclkdjchnbpaaDoor
end
section
namespace Go.Proofs.YtnaclkdjchnbpaaDoor
open Go Go.K

/-- What a response's body is taken as: what is left and went wrong, the response, its moves. -/
def tellT (r : Rs) (z : List Nat × Flt) : (List Nat × Flt) × Rs × List Nat :=
  if r.op = 0 then
    let a1 := tkF1 z (sToken, 8)
    (a1.1, { r with tok := a1.2 }, [])
  else if r.op = 2 then
    let a1 := tkF1 z (sUnit, 1)
    let a2 := tkF1 a1.1 (sAt, 2)
    let b2 := tkF1 a2.1 (sAt, 2)
    let a3 := tkF1 b2.1 (sNew, 4)
    let a4 := tkF1 a3.1 (sVer, 4)
    (a4.1, { r with unit := iI a1.2, ax := iI a2.2, ay := iI b2.2, new := iI a3.2, ver := iI a4.2 }, [])
  else if r.op = 3 then
    let a1 := tkF1 z (sNew, 4)
    let a2 := tkF1 a1.1 (sExpl, 4)
    let a3 := tkF1 a2.1 (sVer, 4)
    (a3.1, { r with new := iI a1.2, expl := iI a2.2, ver := iI a3.2 }, [])
  else if r.op = 4 ∨ r.op = 5 then
    let a1 := flgF z sHit
    let a2 := tkF1 a1.1 (sCost, 8)
    let a3 := tkF1 a2.1 (sSettled, 4)
    let a4 := tkF1 a3.1 (sLeft, 4)
    let a5 := movT a4.1 sMoves
    (a5.1, { r with hit := a1.2, cost := a2.2, settled := iI a3.2, left := iI a4.2 }, a5.2)
  else if r.op = 6 then
    let a1 := tkF1 z (sExpl, 4)
    let a2 := tkF1 a1.1 (sVer, 4)
    let a3 := tkF1 a2.1 (sLeft, 4)
    let a4 := tkF1 a3.1 (sUnits, 1)
    let a5 := tkF1 a4.1 (sCache, 1)
    let a6 := tkF1 a5.1 (sSess, 1)
    (a6.1, { r with expl := iI a1.2, ver := iI a2.2, left := iI a3.2, units := iI a4.2, cache := iI a5.2, sess := iI a6.2 }, [])
  else (z, r, [])
theorem tkF1_byt {z : List Nat × Flt} (h : Byt z.1) (f : ByteArray × Nat) : Byt (tkF1 z f).1.1 := by
  rcases z with ⟨l, x⟩
  rcases x with _ | y
  · show Byt (tk1 f l).2.1
    unfold tk1
    split
    · exact h.drop _
    · exact h
  · exact h
theorem flgF_byt {z : List Nat × Flt} (h : Byt z.1) (n : ByteArray) : Byt (flgF z n).1.1 := tkF1_byt h (n, 1)
/-- A response of noughts, but for its status and its op. -/
def Rs.head (st op : Int) : Rs := ⟨st, op, 0, 0, 0, 0, 0, 0, 0, false, 0, 0, 0, .slice none 0 0, 0, 0, 0⟩
set_option maxHeartbeats 16000000 in
theorem tellT_p (β : Nat → Option Obj) (bf bn : Nat) (what : ByteArray) {z : List Nat × Flt} {σ : Heap} (hf : FormT β bf what z σ) (hBz : Byt z.1) (st op : Int) :
    Go.K.Tr Tryd.prog 62 [.pointer (some ⟨bf, 0, none⟩), .pointer (some ⟨bn, 0, none⟩)] β ((bn, cl (Rs.head st op).cells 44) :: σ) (fun _ σ' => ∃ τ μ mv, FormT β bf what (tellT (Rs.head st op) z).1 τ ∧ MvR β mv (tellT (Rs.head st op) z).2.2 μ ∧ σ' = (bn, cl { (tellT (Rs.head st op) z).2.1 with mv := mv }.cells 44) :: (τ ++ μ)) := by
  refine Tr.of_body Tryd.tt (args := [.pointer (some ⟨bf, 0, none⟩), .pointer (some ⟨bn, 0, none⟩)]) (fr := [(0, true, .pointer (some ⟨bf, 0, none⟩)), (1, true, .pointer (some ⟨bn, 0, none⟩))]) Tryd.func62 rfl (by decide) rfl Tryd.ntmps62 rfl rfl ?_
  intro E hE
  subst hE
  dsimp only [Rs.cells, Rs.head]
  repeat' (first | refine KW.seq ?_ | refine KW.region ?_ | refine KO.nil ?_ | refine At.then_normal ?_ | refine KW.skip ?_ | refine KW.ret ?_ | refine At.then_ret ?_ | refine KW.block ?_ | refine KW.exit ?_ | refine At.block_normal ?_ | refine At.block_ret ?_ | refine At.loop_ret ?_ | refine At.then_exit ?_ | refine At.block_here rfl ?_ | refine At.block_there rfl ?_ | refine At.loop_exit ?_ | refine At.cut_ret ?_ | refine At.cutA_ret ?_ | refine At.cutA_exit ?_ | refine At.cut_exit ?_ | (refine At.cut_same ?_; repeat' (first | exact FLe.nil _ | refine FLe.cons rfl rfl ?_)) | refine KW.cond_t rfl (by first | with_reducible rfl | decide) ?_ | refine KW.cond_f rfl (by first | with_reducible rfl | decide) ?_ | refine KW.scope ?_ | refine KW.label ?_ | refine At.scope_normal ?_ | refine At.scope_ret ?_ | refine At.scope_exit ?_ | ((first | apply KO.val rfl rfl rfl ?kq ?_); (case kq => ((first | apply qt_ev rfl ?hi | ((first | apply qt_load1 rfl rfl ?hi rfl rfl ?hm ?hc | apply qt_loadN rfl rfl ?hi rfl rfl rfl ?hm ?hc); (case hm => repeat (first | exact List.Mem.head _ | apply List.Mem.tail _ | apply List.mem_append_right _)); (case hc => rfl)) | apply qt_cap rfl rfl ?hi rfl | apply qt_eqs rfl rfl rfl ?hi rfl (Or.inl rfl) | apply qt_nes rfl rfl rfl ?hi rfl (Or.inl rfl)); (case hi => (intro h; (repeat' (first | with_reducible exact alln | with_reducible refine allc ?_ ?_ | with_reducible refine andi ?_ ?_)); all_goals (first | with_reducible rfl | with_reducible exact h | with_reducible exact andl h | with_reducible exact andr h | with_reducible exact andl (andl h) | (simp only [h, Bool.and_self]; done) | (simp [h]; done) | (simp_all; done))))))) | (refine KW.cond rfl ?_ ?_ <;> (intro hc; try simp only [kBool] at hc)) | exact absurd trivial ‹¬True› | (refine KO.callF ((bn, cl _ 44) :: _) [] (List.Perm.of_eq (List.append_nil _).symm) rfl rfl rfl rfl rfl rfl rfl (wordT_p _ bf bn _ 44 2 what sToken 8 (by omega) (by omega) rfl (by assumption)) ?_; rintro _ _ ⟨s, hs, rfl⟩; refine KO.perm (σ' := (bn, cl _ 44) :: s) (List.Perm.of_eq (List.append_nil _)) ?_; dsimp only [List.set]) | (refine KO.callF ((bn, cl _ 44) :: _) [] (List.Perm.of_eq (List.append_nil _).symm) rfl rfl rfl rfl rfl rfl rfl (wordT_p _ bf bn _ 44 10 what sCost 8 (by omega) (by omega) rfl (by assumption)) ?_; rintro _ _ ⟨s, hs, rfl⟩; refine KO.perm (σ' := (bn, cl _ 44) :: s) (List.Perm.of_eq (List.append_nil _)) ?_; dsimp only [List.set]) | (refine KO.callF ((bn, cl _ 44) :: _) [] (List.Perm.of_eq (List.append_nil _).symm) rfl rfl rfl rfl rfl rfl rfl (numberT_p _ bf bn _ 44 3 what sUnit 1 (by omega) (by omega) rfl (by assumption)) ?_; rintro _ _ ⟨s, hs, rfl⟩; refine KO.perm (σ' := (bn, cl _ 44) :: s) (List.Perm.of_eq (List.append_nil _)) ?_; dsimp only [List.set]) | (refine KO.callF ((bn, cl _ 44) :: _) [] (List.Perm.of_eq (List.append_nil _).symm) rfl rfl rfl rfl rfl rfl rfl (numberT_p _ bf bn _ 44 6 what sNew 4 (by omega) (by omega) rfl (by assumption)) ?_; rintro _ _ ⟨s, hs, rfl⟩; refine KO.perm (σ' := (bn, cl _ 44) :: s) (List.Perm.of_eq (List.append_nil _)) ?_; dsimp only [List.set]) | (refine KO.callF ((bn, cl _ 44) :: _) [] (List.Perm.of_eq (List.append_nil _).symm) rfl rfl rfl rfl rfl rfl rfl (numberT_p _ bf bn _ 44 7 what sExpl 4 (by omega) (by omega) rfl (by assumption)) ?_; rintro _ _ ⟨s, hs, rfl⟩; refine KO.perm (σ' := (bn, cl _ 44) :: s) (List.Perm.of_eq (List.append_nil _)) ?_; dsimp only [List.set]) | (refine KO.callF ((bn, cl _ 44) :: _) [] (List.Perm.of_eq (List.append_nil _).symm) rfl rfl rfl rfl rfl rfl rfl (numberT_p _ bf bn _ 44 8 what sVer 4 (by omega) (by omega) rfl (by assumption)) ?_; rintro _ _ ⟨s, hs, rfl⟩; refine KO.perm (σ' := (bn, cl _ 44) :: s) (List.Perm.of_eq (List.append_nil _)) ?_; dsimp only [List.set]) | (refine KO.callF ((bn, cl _ 44) :: _) [] (List.Perm.of_eq (List.append_nil _).symm) rfl rfl rfl rfl rfl rfl rfl (numberT_p _ bf bn _ 44 11 what sSettled 4 (by omega) (by omega) rfl (by assumption)) ?_; rintro _ _ ⟨s, hs, rfl⟩; refine KO.perm (σ' := (bn, cl _ 44) :: s) (List.Perm.of_eq (List.append_nil _)) ?_; dsimp only [List.set]) | (refine KO.callF ((bn, cl _ 44) :: _) [] (List.Perm.of_eq (List.append_nil _).symm) rfl rfl rfl rfl rfl rfl rfl (numberT_p _ bf bn _ 44 12 what sLeft 4 (by omega) (by omega) rfl (by assumption)) ?_; rintro _ _ ⟨s, hs, rfl⟩; refine KO.perm (σ' := (bn, cl _ 44) :: s) (List.Perm.of_eq (List.append_nil _)) ?_; dsimp only [List.set]) | (refine KO.callF ((bn, cl _ 44) :: _) [] (List.Perm.of_eq (List.append_nil _).symm) rfl rfl rfl rfl rfl rfl rfl (numberT_p _ bf bn _ 44 14 what sUnits 1 (by omega) (by omega) rfl (by assumption)) ?_; rintro _ _ ⟨s, hs, rfl⟩; refine KO.perm (σ' := (bn, cl _ 44) :: s) (List.Perm.of_eq (List.append_nil _)) ?_; dsimp only [List.set]) | (refine KO.callF ((bn, cl _ 44) :: _) [] (List.Perm.of_eq (List.append_nil _).symm) rfl rfl rfl rfl rfl rfl rfl (numberT_p _ bf bn _ 44 15 what sCache 1 (by omega) (by omega) rfl (by assumption)) ?_; rintro _ _ ⟨s, hs, rfl⟩; refine KO.perm (σ' := (bn, cl _ 44) :: s) (List.Perm.of_eq (List.append_nil _)) ?_; dsimp only [List.set]) | (refine KO.callF ((bn, cl _ 44) :: _) [] (List.Perm.of_eq (List.append_nil _).symm) rfl rfl rfl rfl rfl rfl rfl (numberT_p _ bf bn _ 44 16 what sSess 1 (by omega) (by omega) rfl (by assumption)) ?_; rintro _ _ ⟨s, hs, rfl⟩; refine KO.perm (σ' := (bn, cl _ 44) :: s) (List.Perm.of_eq (List.append_nil _)) ?_; dsimp only [List.set]) | (refine KO.callF ((bn, cl _ 44) :: _) [] (List.Perm.of_eq (List.append_nil _).symm) rfl rfl rfl rfl rfl rfl rfl (cellT_p _ bf bn _ 44 4 what sAt rfl rfl (by assumption)) ?_; rintro _ _ ⟨s, hs, rfl⟩; refine KO.perm (σ' := (bn, cl _ 44) :: s) (List.Perm.of_eq (List.append_nil _)) ?_; dsimp only [List.set]) | (refine KO.callF ((bn, cl _ 44) :: _) [] (List.Perm.of_eq (List.append_nil _).symm) rfl rfl rfl rfl rfl rfl rfl (flagT_p _ bf bn _ 44 9 what sHit rfl (by assumption)) ?_; rintro _ _ ⟨s, hs, rfl⟩; refine KO.perm (σ' := (bn, cl _ 44) :: s) (List.Perm.of_eq (List.append_nil _)) ?_; dsimp only [List.set]) | (refine KO.callF ((bn, cl _ 44) :: _) [] (List.Perm.of_eq (List.append_nil _).symm) rfl rfl rfl rfl rfl rfl rfl (movesT_p _ bf bn _ 44 13 what sMoves rfl (by assumption) (by first | exact hBz | (repeat (first | exact hBz | apply tkF1_byt | apply flgF_byt)))) ?_; rintro _ _ ⟨s, μ, mv, hs, hmv, rfl⟩; refine KO.perm (σ' := (bn, cl _ 44) :: (s ++ μ)) (List.Perm.of_eq (List.append_nil _)) ?_; dsimp only [List.set]) | (exfalso; omega) | fail)
  · refine At.end0 ⟨s, [], .slice none 0 0, ?_, ?_, ?_⟩
    · unfold tellT; dsimp only [Rs.head]; (repeat' (first | rw [if_pos (by omega)] | rw [if_neg (by omega)])); exact hs
    · unfold tellT; dsimp only [Rs.head]; (repeat' (first | rw [if_pos (by omega)] | rw [if_neg (by omega)])); exact MvR.nil _
    · rw [List.append_nil]; unfold tellT; dsimp only [Rs.head]; (repeat' (first | rw [if_pos (by omega)] | rw [if_neg (by omega)])); try rfl
  · refine At.end0 ⟨s, [], .slice none 0 0, ?_, ?_, ?_⟩
    · unfold tellT; dsimp only [Rs.head]; (repeat' (first | rw [if_pos (by omega)] | rw [if_neg (by omega)])); exact hs
    · unfold tellT; dsimp only [Rs.head]; (repeat' (first | rw [if_pos (by omega)] | rw [if_neg (by omega)])); exact MvR.nil _
    · rw [List.append_nil]; unfold tellT; dsimp only [Rs.head]; (repeat' (first | rw [if_pos (by omega)] | rw [if_neg (by omega)])); try rfl
  · refine At.end0 ⟨s, [], .slice none 0 0, ?_, ?_, ?_⟩
    · unfold tellT; dsimp only [Rs.head]; (repeat' (first | rw [if_pos (by omega)] | rw [if_neg (by omega)])); exact hs
    · unfold tellT; dsimp only [Rs.head]; (repeat' (first | rw [if_pos (by omega)] | rw [if_neg (by omega)])); exact MvR.nil _
    · rw [List.append_nil]; unfold tellT; dsimp only [Rs.head]; (repeat' (first | rw [if_pos (by omega)] | rw [if_neg (by omega)])); try rfl
  · refine At.end0 ⟨s, μ, mv, ?_, ?_, ?_⟩
    · unfold tellT; dsimp only [Rs.head]; (repeat' (first | rw [if_pos (by omega)] | rw [if_neg (by omega)])); exact hs
    · unfold tellT; dsimp only [Rs.head]; (repeat' (first | rw [if_pos (by omega)] | rw [if_neg (by omega)])); exact hmv
    · unfold tellT; dsimp only [Rs.head]; (repeat' (first | rw [if_pos (by omega)] | rw [if_neg (by omega)])); try rfl
  · refine At.end0 ⟨s, μ, mv, ?_, ?_, ?_⟩
    · unfold tellT; dsimp only [Rs.head]; (repeat' (first | rw [if_pos (by omega)] | rw [if_neg (by omega)])); exact hs
    · unfold tellT; dsimp only [Rs.head]; (repeat' (first | rw [if_pos (by omega)] | rw [if_neg (by omega)])); exact hmv
    · unfold tellT; dsimp only [Rs.head]; (repeat' (first | rw [if_pos (by omega)] | rw [if_neg (by omega)])); try rfl
  · refine At.end0 ⟨s, [], .slice none 0 0, ?_, ?_, ?_⟩
    · unfold tellT; dsimp only [Rs.head]; (repeat' (first | rw [if_pos (by omega)] | rw [if_neg (by omega)])); exact hs
    · unfold tellT; dsimp only [Rs.head]; (repeat' (first | rw [if_pos (by omega)] | rw [if_neg (by omega)])); exact MvR.nil _
    · rw [List.append_nil]; unfold tellT; dsimp only [Rs.head]; (repeat' (first | rw [if_pos (by omega)] | rw [if_neg (by omega)])); try rfl
  · refine At.end0 ⟨σ, [], .slice none 0 0, ?_, ?_, ?_⟩
    · unfold tellT; dsimp only [Rs.head]; (repeat' (first | rw [if_pos (by omega)] | rw [if_neg (by omega)])); exact hf
    · unfold tellT; dsimp only [Rs.head]; (repeat' (first | rw [if_pos (by omega)] | rw [if_neg (by omega)])); exact MvR.nil _
    · rw [List.append_nil]; unfold tellT; dsimp only [Rs.head]; (repeat' (first | rw [if_pos (by omega)] | rw [if_neg (by omega)])); try rfl
end Go.Proofs.YtnaclkdjchnbpaaDoor
end
section
namespace Go.Proofs.YtnaclkdjchnbpaaDoor
open Go Go.K

/-- Behind the op. -/
def toldT2 (st op : Int) (q : List Nat × Flt) : (List Nat × Flt) × Rs × List Nat := match q.2 with
  | some _ => (q, Rs.head st op, [])
  | none => if 7 ≤ op ∧ op ≠ 255 then ((q.1, some (sOp, 18)), Rs.head st op, []) else if op = 255 ∧ st = 0 then ((q.1, some (sOp, 1)), Rs.head st op, []) else if bodyB op st then tellT (Rs.head st op) q else (q, Rs.head st op, [])
def toldT (z : List Nat × Flt) : (List Nat × Flt) × Rs × List Nat :=
  let a := tkF1 z (sStat, 1)
  let b := tkF1 a.1 (sOp, 1)
  toldT2 (iI a.2) (iI b.2) b.1
set_option maxHeartbeats 16000000 in
theorem toldT_p (β : Nat → Option Obj) (bf bn : Nat) (what : ByteArray) {z : List Nat × Flt} {σ : Heap} (hf : FormT β bf what z σ) (hBz : Byt z.1) :
    Go.K.Tr Tryd.prog 38 [.pointer (some ⟨bf, 0, none⟩), .pointer (some ⟨bn, 0, none⟩)] β ((bn, cl (Rs.head 0 0).cells 44) :: σ) (fun _ σ' => ∃ τ μ mv, FormT β bf what (toldT z).1 τ ∧ MvR β mv (toldT z).2.2 μ ∧ σ' = (bn, cl { (toldT z).2.1 with mv := mv }.cells 44) :: (τ ++ μ)) := by
  refine Tr.sub ?_
  refine Tr.of_body Tryd.tt (args := [.pointer (some ⟨bf, 0, none⟩), .pointer (some ⟨bn, 0, none⟩)]) (fr := [(0, true, .pointer (some ⟨bf, 0, none⟩)), (1, true, .pointer (some ⟨bn, 0, none⟩))]) Tryd.func38 rfl (by decide) rfl Tryd.ntmps38 rfl rfl ?_
  intro E hE
  subst hE
  have htell := fun z s (h : FormT E.β bf what z s) (hB : Byt z.1) st op => tellT_p E.β bf bn what h hB st op
  have hbody := fun st op => body_p E.β (Rs.head st op)
  dsimp only [Rs.cells, Rs.head] at htell hbody ⊢
  repeat' (first | refine KW.seq ?_ | refine KW.region ?_ | refine KO.nil ?_ | refine At.then_normal ?_ | refine KW.skip ?_ | refine KW.ret ?_ | refine At.then_ret ?_ | refine KW.block ?_ | refine KW.exit ?_ | refine At.block_normal ?_ | refine At.block_ret ?_ | refine At.loop_ret ?_ | refine At.then_exit ?_ | refine At.block_here rfl ?_ | refine At.block_there rfl ?_ | refine At.loop_exit ?_ | refine At.cut_ret ?_ | refine At.cutA_ret ?_ | refine At.cutA_exit ?_ | refine At.cut_exit ?_ | (refine At.cut_same ?_; repeat' (first | exact FLe.nil _ | refine FLe.cons rfl rfl ?_)) | refine KW.cond_t rfl (by first | with_reducible rfl | decide) ?_ | refine KW.cond_f rfl (by first | with_reducible rfl | decide) ?_ | refine KW.scope ?_ | refine KW.label ?_ | refine At.scope_normal ?_ | refine At.scope_ret ?_ | refine At.scope_exit ?_ | refine KO.skip' rfl (by first | with_reducible rfl | decide) rfl rfl ?_ | refine KO.skip0' rfl (by first | with_reducible rfl | decide) rfl ?_ | refine KO.skipIn rfl (by first | with_reducible rfl | decide) rfl rfl ?_ | ((first | apply KO.val rfl rfl rfl ?kq ?_ | apply KO.valIn rfl rfl rfl ?kq ?_); (case kq => ((first | apply qt_ev rfl ?hi | ((first | apply qt_load1 rfl rfl ?hi rfl rfl ?hm ?hc | apply qt_loadN rfl rfl ?hi rfl rfl rfl ?hm ?hc); (case hm => repeat (first | exact List.Mem.head _ | apply List.Mem.tail _ | apply List.mem_append_right _)); (case hc => rfl)) | apply qt_pick_t rfl rfl (by first | with_reducible rfl | decide) rfl ?hi | apply qt_pick_f rfl rfl (by first | with_reducible rfl | decide) rfl ?hi | ((first | apply qt_pick_and rfl rfl rfl ?hi ?pj | apply qt_pick_or rfl rfl rfl ?hi ?pj); (case pj => (intro h h2; first | with_reducible exact h2 | with_reducible exact andi h h2 | (rw [h2]; rfl) | (rw [h, h2]; rfl) | with_reducible rfl | (simp [h2]; done) | (simp_all; done)))) | apply qt_cap rfl rfl ?hi rfl | apply qt_eqs rfl rfl rfl ?hi rfl (Or.inl rfl) | apply qt_nes rfl rfl rfl ?hi rfl (Or.inl rfl) | apply qt_eqs rfl rfl rfl ?hi rfl (Or.inr ⟨rfl, rfl, rfl⟩) | apply qt_nes rfl rfl rfl ?hi rfl (Or.inr ⟨rfl, rfl, rfl⟩)); (case hi => (intro h; (repeat' (first | with_reducible exact alln | with_reducible refine allc ?_ ?_ | with_reducible refine andi ?_ ?_)); all_goals (first | with_reducible rfl | with_reducible exact h | with_reducible exact andl h | with_reducible exact andr h | with_reducible exact andl (andl h) | (simp only [h, Bool.and_self]; done) | (simp [h]; done) | (simp_all; done))))))) | (refine KO.alloc rfl rfl rfl rfl rfl rfl ?_; intro _ _) | (apply KO.store (i := _) rfl rfl rfl rfl rfl rfl rfl rfl ?hl ?sg ?hw ?ho ?hs; (case sg => first | exact (rfl : getI 0 _ = _) | exact (rfl : getI 1 _ = _) | exact (rfl : getI 2 _ = _) | exact (rfl : getI 3 _ = _) | exact (rfl : getI 4 _ = _) | exact (rfl : getI 5 _ = _) | exact (rfl : getI 6 _ = _) | exact (rfl : getI 7 _ = _)); (case hl => rfl); (case hw => rfl); (case ho => rfl); (case hs => rfl)) | (refine KW.cond rfl ?_ ?_ <;> (intro hc; try simp only [kBool] at hc)) | exact absurd trivial ‹¬True› | fail)
  rename_i b4 _
  refine KO.callF ((b4, cl [.int .i64 0] 3) :: σ) [(bn, cl [.int .i64 0, .int .i64 0, .int .u64 ((0 : Nat) : Int), .int .i64 0, .int .i64 0, .int .i64 0, .int .i64 0, .int .i64 0, .int .i64 0, .bool false, .int .u64 ((0 : Nat) : Int), .int .i64 0, .int .i64 0, .slice none 0 0, .int .i64 0, .int .i64 0, .int .i64 0] 44)] (by classical exact List.perm_iff_count.2 (fun _ => by first | (simp only [List.count_append, List.count_cons, List.count_nil, List.append_assoc, List.cons_append, List.nil_append]; done) | (simp only [List.count_append, List.count_cons, List.count_nil, List.append_assoc, List.cons_append, List.nil_append]; omega))) rfl rfl rfl rfl rfl rfl rfl (numberT_p _ bf b4 [.int .i64 0] 3 0 what sStat 1 (by omega) (by omega) rfl hf) ?_
  rintro _ _ ⟨s, hs, rfl⟩
  dsimp only [List.set]
  refine KO.perm (σ' := (bn, cl [.int .i64 0, .int .i64 0, .int .u64 ((0 : Nat) : Int), .int .i64 0, .int .i64 0, .int .i64 0, .int .i64 0, .int .i64 0, .int .i64 0, .bool false, .int .u64 ((0 : Nat) : Int), .int .i64 0, .int .i64 0, .slice none 0 0, .int .i64 0, .int .i64 0, .int .i64 0] 44) :: (b4, cl [.int .i64 (iI (tkF1 z (sStat, 1)).2)] 3) :: s) ?_ ?_
  · show List.Perm ((b4, cl [.int .i64 (iI (tkF1 z (sStat, 1)).2)] 3) :: s ++ [(bn, cl [.int .i64 0, .int .i64 0, .int .u64 ((0 : Nat) : Int), .int .i64 0, .int .i64 0, .int .i64 0, .int .i64 0, .int .i64 0, .int .i64 0, .bool false, .int .u64 ((0 : Nat) : Int), .int .i64 0, .int .i64 0, .slice none 0 0, .int .i64 0, .int .i64 0, .int .i64 0] 44)]) _
    exact (by classical exact List.perm_iff_count.2 (fun _ => by first | (simp only [List.count_append, List.count_cons, List.count_nil, List.append_assoc, List.cons_append, List.nil_append]; done) | (simp only [List.count_append, List.count_cons, List.count_nil, List.append_assoc, List.cons_append, List.nil_append]; omega)))
  have hBa : Byt (tkF1 z (sStat, 1)).1.1 := tkF1_byt hBz _
  unfold toldT
  dsimp only
  rcases ha : tkF1 z (sStat, 1) with ⟨⟨l, x⟩, n1⟩
  rw [ha] at hs hBa
  dsimp only at hBa ⊢
  obtain ⟨st, hst⟩ : ∃ st, st = iI n1 := ⟨_, rfl⟩
  rw [← hst]
  obtain ⟨br, hrd⟩ := hs.rd
  have hcall : ∀ (w : List Nat × Flt) (s' : Heap), FormT E.β bf what w s' → Go.K.Tr Tryd.prog 52 [.pointer (some ⟨bf, 0, none⟩), .string sOp, .pointer (some ⟨bn, 1, none⟩), .int .i64 1] E.β ((bn, cl [.int .i64 st, .int .i64 0, .int .u64 ((0 : Nat) : Int), .int .i64 0, .int .i64 0, .int .i64 0, .int .i64 0, .int .i64 0, .int .i64 0, .bool false, .int .u64 ((0 : Nat) : Int), .int .i64 0, .int .i64 0, .slice none 0 0, .int .i64 0, .int .i64 0, .int .i64 0] 44) :: s') (fun _ σ' => ∃ τ, FormT E.β bf what (tkF1 w (sOp, 1)).1 τ ∧ σ' = (bn, cl [.int .i64 st, .int .i64 (iI (tkF1 w (sOp, 1)).2), .int .u64 ((0 : Nat) : Int), .int .i64 0, .int .i64 0, .int .i64 0, .int .i64 0, .int .i64 0, .int .i64 0, .bool false, .int .u64 ((0 : Nat) : Int), .int .i64 0, .int .i64 0, .slice none 0 0, .int .i64 0, .int .i64 0, .int .i64 0] 44) :: τ) := fun w s' h => numberT_p _ bf bn [.int .i64 st, .int .i64 0, .int .u64 ((0 : Nat) : Int), .int .i64 0, .int .i64 0, .int .i64 0, .int .i64 0, .int .i64 0, .int .i64 0, .bool false, .int .u64 ((0 : Nat) : Int), .int .i64 0, .int .i64 0, .slice none 0 0, .int .i64 0, .int .i64 0, .int .i64 0] 44 1 what sOp 1 (by omega) (by omega) rfl h
  have hBb : Byt (tkF1 (l, x) (sOp, 1)).1.1 := tkF1_byt hBa _
  rcases x with _ | y
  · have ke := fun σ' (h : ∀ q ∈ s, q ∈ σ') => hs.err0 h
    have htr := trivial
    repeat' (first | refine KW.seq ?_ | refine KW.region ?_ | refine KO.nil ?_ | refine At.then_normal ?_ | refine KW.skip ?_ | refine KW.ret ?_ | refine At.then_ret ?_ | refine KW.block ?_ | refine KW.exit ?_ | refine At.block_normal ?_ | refine At.block_ret ?_ | refine At.loop_ret ?_ | refine At.then_exit ?_ | refine At.block_here rfl ?_ | refine At.block_there rfl ?_ | refine At.loop_exit ?_ | refine At.cut_ret ?_ | refine At.cutA_ret ?_ | refine At.cutA_exit ?_ | refine At.cut_exit ?_ | (refine At.cut_same ?_; repeat' (first | exact FLe.nil _ | refine FLe.cons rfl rfl ?_)) | refine KW.cond_t rfl (by first | with_reducible rfl | decide) ?_ | refine KW.cond_f rfl (by first | with_reducible rfl | decide) ?_ | refine KW.scope ?_ | refine KW.label ?_ | refine At.scope_normal ?_ | refine At.scope_ret ?_ | refine At.scope_exit ?_ | refine KO.skip' rfl (by first | with_reducible rfl | decide) rfl rfl ?_ | refine KO.skip0' rfl (by first | with_reducible rfl | decide) rfl ?_ | refine KO.skipIn rfl (by first | with_reducible rfl | decide) rfl rfl ?_ | ((first | apply KO.val rfl rfl rfl ?kq ?_ | apply KO.valIn rfl rfl rfl ?kq ?_); (case kq => ((first | apply qt_ev rfl ?hi | ((first | apply qt_load1 rfl rfl ?hi rfl rfl ?hm ?hc | apply qt_loadN rfl rfl ?hi rfl rfl rfl ?hm ?hc); (case hm => repeat (first | exact List.Mem.head _ | apply List.Mem.tail _ | apply List.mem_append_right _)); (case hc => rfl)) | apply qt_pick_t rfl rfl (by first | with_reducible rfl | decide) rfl ?hi | apply qt_pick_f rfl rfl (by first | with_reducible rfl | decide) rfl ?hi | ((first | apply qt_pick_and rfl rfl rfl ?hi ?pj | apply qt_pick_or rfl rfl rfl ?hi ?pj); (case pj => (intro h h2; first | with_reducible exact h2 | with_reducible exact andi h h2 | (rw [h2]; rfl) | (rw [h, h2]; rfl) | with_reducible rfl | (simp [h2]; done) | (simp_all; done)))) | apply qt_cap rfl rfl ?hi rfl | apply qt_eqs rfl rfl rfl ?hi rfl (Or.inl rfl) | apply qt_nes rfl rfl rfl ?hi rfl (Or.inl rfl) | apply qt_eqs rfl rfl rfl ?hi rfl (Or.inr ⟨rfl, rfl, rfl⟩) | apply qt_nes rfl rfl rfl ?hi rfl (Or.inr ⟨rfl, rfl, rfl⟩)); (case hi => (intro h; (repeat' (first | with_reducible exact alln | with_reducible refine allc ?_ ?_ | with_reducible refine andi ?_ ?_)); all_goals (first | with_reducible rfl | with_reducible exact h | with_reducible exact andl h | with_reducible exact andr h | with_reducible exact andl (andl h) | (simp only [h, Bool.and_self]; done) | (simp [h]; done) | (simp_all; done))))))) | (refine KO.alloc rfl rfl rfl rfl rfl rfl ?_; intro _ _) | (apply KO.store (i := _) rfl rfl rfl rfl rfl rfl rfl rfl ?hl ?sg ?hw ?ho ?hs; (case sg => first | exact (rfl : getI 0 _ = _) | exact (rfl : getI 1 _ = _) | exact (rfl : getI 2 _ = _) | exact (rfl : getI 3 _ = _) | exact (rfl : getI 4 _ = _) | exact (rfl : getI 5 _ = _) | exact (rfl : getI 6 _ = _) | exact (rfl : getI 7 _ = _)); (case hl => rfl); (case hw => rfl); (case ho => rfl); (case hs => rfl)) | (refine KW.cond rfl ?_ ?_ <;> (intro hc; try simp only [kBool] at hc)) | exact absurd trivial ‹¬True› | ((first | apply KO.val (g := true) rfl rfl rfl | apply KO.val rfl rfl rfl | apply KO.valIn rfl rfl rfl); (first | (apply qt_loadN_cel rfl rfl ?hi rfl rfl rfl ?hl ?hc; (case hc => exact fun _ => (ke _ (fun q hq => List.mem_cons_of_mem _ (List.mem_cons_of_mem _ hq)))); (case hl => rfl)) | (apply qt_loadN_cel rfl rfl ?hi rfl rfl rfl ?hl ?hc; (case hc => exact fun _ => (hrd _ (fun q hq => List.mem_cons_of_mem _ (List.mem_cons_of_mem _ hq)))); (case hl => rfl)) | (apply qt_load1_cel rfl rfl ?hi rfl rfl ?hc; (case hc => first | exact fun _ => (ke _ (fun q hq => List.mem_cons_of_mem _ (List.mem_cons_of_mem _ hq))) | exact fun _ => (hrd _ (fun q hq => List.mem_cons_of_mem _ (List.mem_cons_of_mem _ hq)))))); (case hi => (first | exact fun _ => rfl | (intro h; first | rfl | exact h | (simp [h]; done) | (simp_all; done))))) | (exfalso; omega) | fail)
    refine KO.callF ((bn, cl [.int .i64 st, .int .i64 0, .int .u64 ((0 : Nat) : Int), .int .i64 0, .int .i64 0, .int .i64 0, .int .i64 0, .int .i64 0, .int .i64 0, .bool false, .int .u64 ((0 : Nat) : Int), .int .i64 0, .int .i64 0, .slice none 0 0, .int .i64 0, .int .i64 0, .int .i64 0] 44) :: s) [(b4, cl [.int .i64 st] 3)] (by classical exact List.perm_iff_count.2 (fun _ => by first | (simp only [List.count_append, List.count_cons, List.count_nil, List.append_assoc, List.cons_append, List.nil_append]; done) | (simp only [List.count_append, List.count_cons, List.count_nil, List.append_assoc, List.cons_append, List.nil_append]; omega))) rfl rfl rfl rfl rfl rfl rfl (hcall _ s hs) ?_
    rintro _ _ ⟨s3, hs3, rfl⟩
    rcases hc2 : tkF1 (l, none) (sOp, 1) with ⟨⟨l2, x2⟩, n2⟩
    rw [hc2] at hs3 hBb
    dsimp only at hBb ⊢
    obtain ⟨op, hop⟩ : ∃ op, op = iI n2 := ⟨_, rfl⟩
    rw [← hop]
    refine KO.permS (σ' := (bn, cl [.int .i64 st, .int .i64 op, .int .u64 ((0 : Nat) : Int), .int .i64 0, .int .i64 0, .int .i64 0, .int .i64 0, .int .i64 0, .int .i64 0, .bool false, .int .u64 ((0 : Nat) : Int), .int .i64 0, .int .i64 0, .slice none 0 0, .int .i64 0, .int .i64 0, .int .i64 0] 44) :: s3) (φ := [(b4, cl [.int .i64 st] 3)]) (by first | exact List.Perm.refl _ | exact (by classical exact List.perm_iff_count.2 (fun _ => by first | (simp only [List.count_append, List.count_cons, List.count_nil, List.append_assoc, List.cons_append, List.nil_append]; done) | (simp only [List.count_append, List.count_cons, List.count_nil, List.append_assoc, List.cons_append, List.nil_append]; omega)))) ?_
    rcases x2 with _ | y
    · have ke2 := fun σ' (h : ∀ q ∈ s3, q ∈ σ') => hs3.err0 h
      have htell2 := htell _ s3 hs3 hBb st op
      have hbody2 := hbody st op
      repeat' (first | refine KW.seq ?_ | refine KW.region ?_ | refine KO.nil ?_ | refine At.then_normal ?_ | refine KW.skip ?_ | refine KW.ret ?_ | refine At.then_ret ?_ | refine KW.block ?_ | refine KW.exit ?_ | refine At.block_normal ?_ | refine At.block_ret ?_ | refine At.loop_ret ?_ | refine At.then_exit ?_ | refine At.block_here rfl ?_ | refine At.block_there rfl ?_ | refine At.loop_exit ?_ | refine At.cut_ret ?_ | refine At.cutA_ret ?_ | refine At.cutA_exit ?_ | refine At.cut_exit ?_ | (refine At.cut_same ?_; repeat' (first | exact FLe.nil _ | refine FLe.cons rfl rfl ?_)) | refine KW.cond_t rfl (by first | with_reducible rfl | decide) ?_ | refine KW.cond_f rfl (by first | with_reducible rfl | decide) ?_ | refine KW.scope ?_ | refine KW.label ?_ | refine At.scope_normal ?_ | refine At.scope_ret ?_ | refine At.scope_exit ?_ | refine KO.skip' rfl (by first | with_reducible rfl | decide) rfl rfl ?_ | refine KO.skip0' rfl (by first | with_reducible rfl | decide) rfl ?_ | refine KO.skipIn rfl (by first | with_reducible rfl | decide) rfl rfl ?_ | ((first | apply KO.val rfl rfl rfl ?kq ?_ | apply KO.valIn rfl rfl rfl ?kq ?_); (case kq => ((first | apply qt_ev rfl ?hi | ((first | apply qt_load1 rfl rfl ?hi rfl rfl ?hm ?hc | apply qt_loadN rfl rfl ?hi rfl rfl rfl ?hm ?hc); (case hm => repeat (first | exact List.Mem.head _ | apply List.Mem.tail _ | apply List.mem_append_right _)); (case hc => rfl)) | refine qt_callQ rfl rfl ?hi (fun hg => Tr.quiet hbody2) | apply qt_pick_t rfl rfl (by first | with_reducible rfl | decide) rfl ?hi | apply qt_pick_f rfl rfl (by first | with_reducible rfl | decide) rfl ?hi | ((first | apply qt_pick_and rfl rfl rfl ?hi ?pj | apply qt_pick_or rfl rfl rfl ?hi ?pj); (case pj => (intro h h2; first | with_reducible exact h2 | with_reducible exact andi h h2 | (rw [h2]; rfl) | (rw [h, h2]; rfl) | with_reducible rfl | (simp [h2]; done) | (simp_all; done)))) | apply qt_cap rfl rfl ?hi rfl | apply qt_eqs rfl rfl rfl ?hi rfl (Or.inl rfl) | apply qt_nes rfl rfl rfl ?hi rfl (Or.inl rfl) | apply qt_eqs rfl rfl rfl ?hi rfl (Or.inr ⟨rfl, rfl, rfl⟩) | apply qt_nes rfl rfl rfl ?hi rfl (Or.inr ⟨rfl, rfl, rfl⟩)); (case hi => (intro h; (repeat' (first | with_reducible exact alln | with_reducible refine allc ?_ ?_ | with_reducible refine andi ?_ ?_)); all_goals (first | with_reducible rfl | with_reducible exact h | with_reducible exact andl h | with_reducible exact andr h | with_reducible exact andl (andl h) | (simp only [h, Bool.and_self]; done) | (simp [h]; done) | (simp_all; done))))))) | (refine KO.alloc rfl rfl rfl rfl rfl rfl ?_; intro _ _) | (apply KO.store (i := _) rfl rfl rfl rfl rfl rfl rfl rfl ?hl ?sg ?hw ?ho ?hs; (case sg => first | exact (rfl : getI 0 _ = _) | exact (rfl : getI 1 _ = _) | exact (rfl : getI 2 _ = _) | exact (rfl : getI 3 _ = _) | exact (rfl : getI 4 _ = _) | exact (rfl : getI 5 _ = _) | exact (rfl : getI 6 _ = _) | exact (rfl : getI 7 _ = _)); (case hl => rfl); (case hw => rfl); (case ho => rfl); (case hs => rfl)) | (refine KW.cond rfl ?_ ?_ <;> (intro hc; try simp only [kBool] at hc)) | exact absurd trivial ‹¬True› | ((first | apply KO.val (g := true) rfl rfl rfl | apply KO.val rfl rfl rfl | apply KO.valIn rfl rfl rfl); (first | (apply qt_loadN_cel rfl rfl ?hi rfl rfl rfl ?hl ?hc; (case hc => exact fun _ => (ke _ (fun q hq => List.mem_cons_of_mem _ (List.mem_cons_of_mem _ hq)))); (case hl => rfl)) | (apply qt_loadN_cel rfl rfl ?hi rfl rfl rfl ?hl ?hc; (case hc => exact fun _ => (hrd _ (fun q hq => List.mem_cons_of_mem _ (List.mem_cons_of_mem _ hq)))); (case hl => rfl)) | (apply qt_loadN_cel rfl rfl ?hi rfl rfl rfl ?hl ?hc; (case hc => exact fun _ => (ke2 _ (fun q hq => List.mem_cons_of_mem _ hq))); (case hl => rfl)) | (apply qt_load1_cel rfl rfl ?hi rfl rfl ?hc; (case hc => first | exact fun _ => (ke _ (fun q hq => List.mem_cons_of_mem _ (List.mem_cons_of_mem _ hq))) | exact fun _ => (hrd _ (fun q hq => List.mem_cons_of_mem _ (List.mem_cons_of_mem _ hq))) | exact fun _ => (ke2 _ (fun q hq => List.mem_cons_of_mem _ hq))))); (case hi => (first | exact fun _ => rfl | (intro h; first | rfl | exact h | (simp [h]; done) | (simp_all; done))))) | (exfalso; omega) | (refine KO.callF s3 [(bn, cl [.int .i64 st, .int .i64 op, .int .u64 ((0 : Nat) : Int), .int .i64 0, .int .i64 0, .int .i64 0, .int .i64 0, .int .i64 0, .int .i64 0, .bool false, .int .u64 ((0 : Nat) : Int), .int .i64 0, .int .i64 0, .slice none 0 0, .int .i64 0, .int .i64 0, .int .i64 0] 44)] (List.perm_append_singleton _ _).symm rfl rfl rfl rfl rfl rfl rfl (wrongT_p _ bf sOp what 18 hs3) ?_; rintro _ s5 hs5; refine KO.perm (σ' := (bn, cl [.int .i64 st, .int .i64 op, .int .u64 ((0 : Nat) : Int), .int .i64 0, .int .i64 0, .int .i64 0, .int .i64 0, .int .i64 0, .int .i64 0, .bool false, .int .u64 ((0 : Nat) : Int), .int .i64 0, .int .i64 0, .slice none 0 0, .int .i64 0, .int .i64 0, .int .i64 0] 44) :: s5) (List.perm_append_singleton _ _) ?_) | (refine KO.callF s3 [(bn, cl [.int .i64 st, .int .i64 op, .int .u64 ((0 : Nat) : Int), .int .i64 0, .int .i64 0, .int .i64 0, .int .i64 0, .int .i64 0, .int .i64 0, .bool false, .int .u64 ((0 : Nat) : Int), .int .i64 0, .int .i64 0, .slice none 0 0, .int .i64 0, .int .i64 0, .int .i64 0] 44)] (List.perm_append_singleton _ _).symm rfl rfl rfl rfl rfl rfl rfl (wrongT_p _ bf sOp what 1 hs3) ?_; rintro _ s5 hs5; refine KO.perm (σ' := (bn, cl [.int .i64 st, .int .i64 op, .int .u64 ((0 : Nat) : Int), .int .i64 0, .int .i64 0, .int .i64 0, .int .i64 0, .int .i64 0, .int .i64 0, .bool false, .int .u64 ((0 : Nat) : Int), .int .i64 0, .int .i64 0, .slice none 0 0, .int .i64 0, .int .i64 0, .int .i64 0] 44) :: s5) (List.perm_append_singleton _ _) ?_) | (refine KO.callF ((bn, cl [.int .i64 st, .int .i64 op, .int .u64 ((0 : Nat) : Int), .int .i64 0, .int .i64 0, .int .i64 0, .int .i64 0, .int .i64 0, .int .i64 0, .bool false, .int .u64 ((0 : Nat) : Int), .int .i64 0, .int .i64 0, .slice none 0 0, .int .i64 0, .int .i64 0, .int .i64 0] 44) :: s3) [] (List.Perm.of_eq (List.append_nil _).symm) rfl rfl rfl rfl rfl rfl rfl htell2 ?_; rintro _ _ ⟨s5, μ, mv, hs5, hmv, rfl⟩; refine KO.perm (σ' := (bn, cl _ 44) :: (s5 ++ μ)) (List.Perm.of_eq (List.append_nil _)) ?_) | fail)
      · refine At.end0 ⟨_, List.Sublist.refl _, s5, [], .slice none 0 0, ?_, ?_, ?_⟩
        · unfold toldT2; dsimp only; rw [if_pos (by omega)]; exact hs5
        · unfold toldT2; dsimp only; rw [if_pos (by omega)]; exact MvR.nil _
        · rw [List.append_nil]; unfold toldT2; dsimp only; rw [if_pos (by omega)]; rfl
      · refine At.end0 ⟨_, List.Sublist.refl _, s5, [], .slice none 0 0, ?_, ?_, ?_⟩
        · unfold toldT2; dsimp only; rw [if_neg (by omega), if_pos (by omega)]; exact hs5
        · unfold toldT2; dsimp only; rw [if_neg (by omega), if_pos (by omega)]; exact MvR.nil _
        · rw [List.append_nil]; unfold toldT2; dsimp only; rw [if_neg (by omega), if_pos (by omega)]; rfl
      · have hcc : bodyB op st = true := hc
        refine At.end0 ⟨_, List.Sublist.refl _, s5, μ, mv, ?_, ?_, ?_⟩
        · unfold toldT2; dsimp only; rw [if_neg (by omega), if_neg (by omega), if_pos hcc]; exact hs5
        · unfold toldT2; dsimp only; rw [if_neg (by omega), if_neg (by omega), if_pos hcc]; exact hmv
        · unfold toldT2; dsimp only; rw [if_neg (by omega), if_neg (by omega), if_pos hcc]; rfl
      · have hcc : ¬ bodyB op st = true := by simpa using hc
        refine At.end0 ⟨_, List.Sublist.refl _, s3, [], .slice none 0 0, ?_, ?_, ?_⟩
        · unfold toldT2; dsimp only; rw [if_neg (by omega), if_neg (by omega), if_neg hcc]; exact hs3
        · unfold toldT2; dsimp only; rw [if_neg (by omega), if_neg (by omega), if_neg hcc]; exact MvR.nil _
        · rw [List.append_nil]; unfold toldT2; dsimp only; rw [if_neg (by omega), if_neg (by omega), if_neg hcc]; rfl
    · obtain ⟨v, ke2⟩ := hs3.err1
      repeat' (first | refine KW.seq ?_ | refine KW.region ?_ | refine KO.nil ?_ | refine At.then_normal ?_ | refine KW.skip ?_ | refine KW.ret ?_ | refine At.then_ret ?_ | refine KW.block ?_ | refine KW.exit ?_ | refine At.block_normal ?_ | refine At.block_ret ?_ | refine At.loop_ret ?_ | refine At.then_exit ?_ | refine At.block_here rfl ?_ | refine At.block_there rfl ?_ | refine At.loop_exit ?_ | refine At.cut_ret ?_ | refine At.cutA_ret ?_ | refine At.cutA_exit ?_ | refine At.cut_exit ?_ | (refine At.cut_same ?_; repeat' (first | exact FLe.nil _ | refine FLe.cons rfl rfl ?_)) | refine KW.cond_t rfl (by first | with_reducible rfl | decide) ?_ | refine KW.cond_f rfl (by first | with_reducible rfl | decide) ?_ | refine KW.scope ?_ | refine KW.label ?_ | refine At.scope_normal ?_ | refine At.scope_ret ?_ | refine At.scope_exit ?_ | refine KO.skip' rfl (by first | with_reducible rfl | decide) rfl rfl ?_ | refine KO.skip0' rfl (by first | with_reducible rfl | decide) rfl ?_ | refine KO.skipIn rfl (by first | with_reducible rfl | decide) rfl rfl ?_ | ((first | apply KO.val rfl rfl rfl ?kq ?_ | apply KO.valIn rfl rfl rfl ?kq ?_); (case kq => ((first | apply qt_ev rfl ?hi | ((first | apply qt_load1 rfl rfl ?hi rfl rfl ?hm ?hc | apply qt_loadN rfl rfl ?hi rfl rfl rfl ?hm ?hc); (case hm => repeat (first | exact List.Mem.head _ | apply List.Mem.tail _ | apply List.mem_append_right _)); (case hc => rfl)) | apply qt_pick_t rfl rfl (by first | with_reducible rfl | decide) rfl ?hi | apply qt_pick_f rfl rfl (by first | with_reducible rfl | decide) rfl ?hi | ((first | apply qt_pick_and rfl rfl rfl ?hi ?pj | apply qt_pick_or rfl rfl rfl ?hi ?pj); (case pj => (intro h h2; first | with_reducible exact h2 | with_reducible exact andi h h2 | (rw [h2]; rfl) | (rw [h, h2]; rfl) | with_reducible rfl | (simp [h2]; done) | (simp_all; done)))) | apply qt_cap rfl rfl ?hi rfl | apply qt_eqs rfl rfl rfl ?hi rfl (Or.inl rfl) | apply qt_nes rfl rfl rfl ?hi rfl (Or.inl rfl) | apply qt_eqs rfl rfl rfl ?hi rfl (Or.inr ⟨rfl, rfl, rfl⟩) | apply qt_nes rfl rfl rfl ?hi rfl (Or.inr ⟨rfl, rfl, rfl⟩)); (case hi => (intro h; (repeat' (first | with_reducible exact alln | with_reducible refine allc ?_ ?_ | with_reducible refine andi ?_ ?_)); all_goals (first | with_reducible rfl | with_reducible exact h | with_reducible exact andl h | with_reducible exact andr h | with_reducible exact andl (andl h) | (simp only [h, Bool.and_self]; done) | (simp [h]; done) | (simp_all; done))))))) | (refine KO.alloc rfl rfl rfl rfl rfl rfl ?_; intro _ _) | (apply KO.store (i := _) rfl rfl rfl rfl rfl rfl rfl rfl ?hl ?sg ?hw ?ho ?hs; (case sg => first | exact (rfl : getI 0 _ = _) | exact (rfl : getI 1 _ = _) | exact (rfl : getI 2 _ = _) | exact (rfl : getI 3 _ = _) | exact (rfl : getI 4 _ = _) | exact (rfl : getI 5 _ = _) | exact (rfl : getI 6 _ = _) | exact (rfl : getI 7 _ = _)); (case hl => rfl); (case hw => rfl); (case ho => rfl); (case hs => rfl)) | (refine KW.cond rfl ?_ ?_ <;> (intro hc; try simp only [kBool] at hc)) | exact absurd trivial ‹¬True› | ((first | apply KO.val (g := true) rfl rfl rfl | apply KO.val rfl rfl rfl | apply KO.valIn rfl rfl rfl); (first | (apply qt_loadN_cel rfl rfl ?hi rfl rfl rfl ?hl ?hc; (case hc => exact fun _ => (ke _ (fun q hq => List.mem_cons_of_mem _ (List.mem_cons_of_mem _ hq)))); (case hl => rfl)) | (apply qt_loadN_cel rfl rfl ?hi rfl rfl rfl ?hl ?hc; (case hc => exact fun _ => (hrd _ (fun q hq => List.mem_cons_of_mem _ (List.mem_cons_of_mem _ hq)))); (case hl => rfl)) | (apply qt_loadN_cel rfl rfl ?hi rfl rfl rfl ?hl ?hc; (case hc => exact fun _ => (ke2 _ (fun q hq => List.mem_cons_of_mem _ hq))); (case hl => rfl)) | (apply qt_load1_cel rfl rfl ?hi rfl rfl ?hc; (case hc => first | exact fun _ => (ke _ (fun q hq => List.mem_cons_of_mem _ (List.mem_cons_of_mem _ hq))) | exact fun _ => (hrd _ (fun q hq => List.mem_cons_of_mem _ (List.mem_cons_of_mem _ hq))) | exact fun _ => (ke2 _ (fun q hq => List.mem_cons_of_mem _ hq))))); (case hi => (first | exact fun _ => rfl | (intro h; first | rfl | exact h | (simp [h]; done) | (simp_all; done))))) | (exfalso; omega) | (refine KO.callF s3 [(bn, cl [.int .i64 st, .int .i64 op, .int .u64 ((0 : Nat) : Int), .int .i64 0, .int .i64 0, .int .i64 0, .int .i64 0, .int .i64 0, .int .i64 0, .bool false, .int .u64 ((0 : Nat) : Int), .int .i64 0, .int .i64 0, .slice none 0 0, .int .i64 0, .int .i64 0, .int .i64 0] 44)] (List.perm_append_singleton _ _).symm rfl rfl rfl rfl rfl rfl rfl (wrongT_p _ bf sOp what 18 hs3) ?_; rintro _ s5 hs5; refine KO.perm (σ' := (bn, cl [.int .i64 st, .int .i64 op, .int .u64 ((0 : Nat) : Int), .int .i64 0, .int .i64 0, .int .i64 0, .int .i64 0, .int .i64 0, .int .i64 0, .bool false, .int .u64 ((0 : Nat) : Int), .int .i64 0, .int .i64 0, .slice none 0 0, .int .i64 0, .int .i64 0, .int .i64 0] 44) :: s5) (List.perm_append_singleton _ _) ?_) | (refine KO.callF s3 [(bn, cl [.int .i64 st, .int .i64 op, .int .u64 ((0 : Nat) : Int), .int .i64 0, .int .i64 0, .int .i64 0, .int .i64 0, .int .i64 0, .int .i64 0, .bool false, .int .u64 ((0 : Nat) : Int), .int .i64 0, .int .i64 0, .slice none 0 0, .int .i64 0, .int .i64 0, .int .i64 0] 44)] (List.perm_append_singleton _ _).symm rfl rfl rfl rfl rfl rfl rfl (wrongT_p _ bf sOp what 1 hs3) ?_; rintro _ s5 hs5; refine KO.perm (σ' := (bn, cl [.int .i64 st, .int .i64 op, .int .u64 ((0 : Nat) : Int), .int .i64 0, .int .i64 0, .int .i64 0, .int .i64 0, .int .i64 0, .int .i64 0, .bool false, .int .u64 ((0 : Nat) : Int), .int .i64 0, .int .i64 0, .slice none 0 0, .int .i64 0, .int .i64 0, .int .i64 0] 44) :: s5) (List.perm_append_singleton _ _) ?_) | (refine KO.callF ((bn, cl [.int .i64 st, .int .i64 op, .int .u64 ((0 : Nat) : Int), .int .i64 0, .int .i64 0, .int .i64 0, .int .i64 0, .int .i64 0, .int .i64 0, .bool false, .int .u64 ((0 : Nat) : Int), .int .i64 0, .int .i64 0, .slice none 0 0, .int .i64 0, .int .i64 0, .int .i64 0] 44) :: s3) [] (List.Perm.of_eq (List.append_nil _).symm) rfl rfl rfl rfl rfl rfl rfl htell2 ?_; rintro _ _ ⟨s5, μ, mv, hs5, hmv, rfl⟩; refine KO.perm (σ' := (bn, cl _ 44) :: (s5 ++ μ)) (List.Perm.of_eq (List.append_nil _)) ?_) | fail)
      exact At.done_ret [] trivial ⟨_, List.Sublist.refl _, s3, [], .slice none 0 0, hs3, MvR.nil _, by rw [List.append_nil]; rfl⟩
  · obtain ⟨v, ke⟩ := hs.err1
    have htr := trivial
    repeat' (first | refine KW.seq ?_ | refine KW.region ?_ | refine KO.nil ?_ | refine At.then_normal ?_ | refine KW.skip ?_ | refine KW.ret ?_ | refine At.then_ret ?_ | refine KW.block ?_ | refine KW.exit ?_ | refine At.block_normal ?_ | refine At.block_ret ?_ | refine At.loop_ret ?_ | refine At.then_exit ?_ | refine At.block_here rfl ?_ | refine At.block_there rfl ?_ | refine At.loop_exit ?_ | refine At.cut_ret ?_ | refine At.cutA_ret ?_ | refine At.cutA_exit ?_ | refine At.cut_exit ?_ | (refine At.cut_same ?_; repeat' (first | exact FLe.nil _ | refine FLe.cons rfl rfl ?_)) | refine KW.cond_t rfl (by first | with_reducible rfl | decide) ?_ | refine KW.cond_f rfl (by first | with_reducible rfl | decide) ?_ | refine KW.scope ?_ | refine KW.label ?_ | refine At.scope_normal ?_ | refine At.scope_ret ?_ | refine At.scope_exit ?_ | refine KO.skip' rfl (by first | with_reducible rfl | decide) rfl rfl ?_ | refine KO.skip0' rfl (by first | with_reducible rfl | decide) rfl ?_ | refine KO.skipIn rfl (by first | with_reducible rfl | decide) rfl rfl ?_ | ((first | apply KO.val rfl rfl rfl ?kq ?_ | apply KO.valIn rfl rfl rfl ?kq ?_); (case kq => ((first | apply qt_ev rfl ?hi | ((first | apply qt_load1 rfl rfl ?hi rfl rfl ?hm ?hc | apply qt_loadN rfl rfl ?hi rfl rfl rfl ?hm ?hc); (case hm => repeat (first | exact List.Mem.head _ | apply List.Mem.tail _ | apply List.mem_append_right _)); (case hc => rfl)) | apply qt_pick_t rfl rfl (by first | with_reducible rfl | decide) rfl ?hi | apply qt_pick_f rfl rfl (by first | with_reducible rfl | decide) rfl ?hi | ((first | apply qt_pick_and rfl rfl rfl ?hi ?pj | apply qt_pick_or rfl rfl rfl ?hi ?pj); (case pj => (intro h h2; first | with_reducible exact h2 | with_reducible exact andi h h2 | (rw [h2]; rfl) | (rw [h, h2]; rfl) | with_reducible rfl | (simp [h2]; done) | (simp_all; done)))) | apply qt_cap rfl rfl ?hi rfl | apply qt_eqs rfl rfl rfl ?hi rfl (Or.inl rfl) | apply qt_nes rfl rfl rfl ?hi rfl (Or.inl rfl) | apply qt_eqs rfl rfl rfl ?hi rfl (Or.inr ⟨rfl, rfl, rfl⟩) | apply qt_nes rfl rfl rfl ?hi rfl (Or.inr ⟨rfl, rfl, rfl⟩)); (case hi => (intro h; (repeat' (first | with_reducible exact alln | with_reducible refine allc ?_ ?_ | with_reducible refine andi ?_ ?_)); all_goals (first | with_reducible rfl | with_reducible exact h | with_reducible exact andl h | with_reducible exact andr h | with_reducible exact andl (andl h) | (simp only [h, Bool.and_self]; done) | (simp [h]; done) | (simp_all; done))))))) | (refine KO.alloc rfl rfl rfl rfl rfl rfl ?_; intro _ _) | (apply KO.store (i := _) rfl rfl rfl rfl rfl rfl rfl rfl ?hl ?sg ?hw ?ho ?hs; (case sg => first | exact (rfl : getI 0 _ = _) | exact (rfl : getI 1 _ = _) | exact (rfl : getI 2 _ = _) | exact (rfl : getI 3 _ = _) | exact (rfl : getI 4 _ = _) | exact (rfl : getI 5 _ = _) | exact (rfl : getI 6 _ = _) | exact (rfl : getI 7 _ = _)); (case hl => rfl); (case hw => rfl); (case ho => rfl); (case hs => rfl)) | (refine KW.cond rfl ?_ ?_ <;> (intro hc; try simp only [kBool] at hc)) | exact absurd trivial ‹¬True› | ((first | apply KO.val (g := true) rfl rfl rfl | apply KO.val rfl rfl rfl | apply KO.valIn rfl rfl rfl); (first | (apply qt_loadN_cel rfl rfl ?hi rfl rfl rfl ?hl ?hc; (case hc => exact fun _ => (ke _ (fun q hq => List.mem_cons_of_mem _ (List.mem_cons_of_mem _ hq)))); (case hl => rfl)) | (apply qt_loadN_cel rfl rfl ?hi rfl rfl rfl ?hl ?hc; (case hc => exact fun _ => (hrd _ (fun q hq => List.mem_cons_of_mem _ (List.mem_cons_of_mem _ hq)))); (case hl => rfl)) | (apply qt_loadN_cel rfl rfl ?hi rfl rfl rfl ?hl ?hc; (case hc => exact fun _ => (ke2 _ (fun q hq => List.mem_cons_of_mem _ hq))); (case hl => rfl)) | (apply qt_load1_cel rfl rfl ?hi rfl rfl ?hc; (case hc => first | exact fun _ => (ke _ (fun q hq => List.mem_cons_of_mem _ (List.mem_cons_of_mem _ hq))) | exact fun _ => (hrd _ (fun q hq => List.mem_cons_of_mem _ (List.mem_cons_of_mem _ hq))) | exact fun _ => (ke2 _ (fun q hq => List.mem_cons_of_mem _ hq))))); (case hi => (first | exact fun _ => rfl | (intro h; first | rfl | exact h | (simp [h]; done) | (simp_all; done))))) | (exfalso; omega) | (refine KO.callF s3 [(bn, cl [.int .i64 st, .int .i64 op, .int .u64 ((0 : Nat) : Int), .int .i64 0, .int .i64 0, .int .i64 0, .int .i64 0, .int .i64 0, .int .i64 0, .bool false, .int .u64 ((0 : Nat) : Int), .int .i64 0, .int .i64 0, .slice none 0 0, .int .i64 0, .int .i64 0, .int .i64 0] 44)] (List.perm_append_singleton _ _).symm rfl rfl rfl rfl rfl rfl rfl (wrongT_p _ bf sOp what 18 hs3) ?_; rintro _ s5 hs5; refine KO.perm (σ' := (bn, cl [.int .i64 st, .int .i64 op, .int .u64 ((0 : Nat) : Int), .int .i64 0, .int .i64 0, .int .i64 0, .int .i64 0, .int .i64 0, .int .i64 0, .bool false, .int .u64 ((0 : Nat) : Int), .int .i64 0, .int .i64 0, .slice none 0 0, .int .i64 0, .int .i64 0, .int .i64 0] 44) :: s5) (List.perm_append_singleton _ _) ?_) | (refine KO.callF s3 [(bn, cl [.int .i64 st, .int .i64 op, .int .u64 ((0 : Nat) : Int), .int .i64 0, .int .i64 0, .int .i64 0, .int .i64 0, .int .i64 0, .int .i64 0, .bool false, .int .u64 ((0 : Nat) : Int), .int .i64 0, .int .i64 0, .slice none 0 0, .int .i64 0, .int .i64 0, .int .i64 0] 44)] (List.perm_append_singleton _ _).symm rfl rfl rfl rfl rfl rfl rfl (wrongT_p _ bf sOp what 1 hs3) ?_; rintro _ s5 hs5; refine KO.perm (σ' := (bn, cl [.int .i64 st, .int .i64 op, .int .u64 ((0 : Nat) : Int), .int .i64 0, .int .i64 0, .int .i64 0, .int .i64 0, .int .i64 0, .int .i64 0, .bool false, .int .u64 ((0 : Nat) : Int), .int .i64 0, .int .i64 0, .slice none 0 0, .int .i64 0, .int .i64 0, .int .i64 0] 44) :: s5) (List.perm_append_singleton _ _) ?_) | (refine KO.callF ((bn, cl [.int .i64 st, .int .i64 op, .int .u64 ((0 : Nat) : Int), .int .i64 0, .int .i64 0, .int .i64 0, .int .i64 0, .int .i64 0, .int .i64 0, .bool false, .int .u64 ((0 : Nat) : Int), .int .i64 0, .int .i64 0, .slice none 0 0, .int .i64 0, .int .i64 0, .int .i64 0] 44) :: s3) [] (List.Perm.of_eq (List.append_nil _).symm) rfl rfl rfl rfl rfl rfl rfl htell2 ?_; rintro _ _ ⟨s5, μ, mv, hs5, hmv, rfl⟩; refine KO.perm (σ' := (bn, cl _ 44) :: (s5 ++ μ)) (List.Perm.of_eq (List.append_nil _)) ?_) | (exfalso; omega) | fail)
    refine KO.callF ((bn, cl [.int .i64 st, .int .i64 0, .int .u64 ((0 : Nat) : Int), .int .i64 0, .int .i64 0, .int .i64 0, .int .i64 0, .int .i64 0, .int .i64 0, .bool false, .int .u64 ((0 : Nat) : Int), .int .i64 0, .int .i64 0, .slice none 0 0, .int .i64 0, .int .i64 0, .int .i64 0] 44) :: s) [(b4, cl [.int .i64 st] 3)] (by classical exact List.perm_iff_count.2 (fun _ => by first | (simp only [List.count_append, List.count_cons, List.count_nil, List.append_assoc, List.cons_append, List.nil_append]; done) | (simp only [List.count_append, List.count_cons, List.count_nil, List.append_assoc, List.cons_append, List.nil_append]; omega))) rfl rfl rfl rfl rfl rfl rfl (hcall _ s hs) ?_
    rintro _ _ ⟨s3, hs3, rfl⟩
    have hs4 : FormT E.β bf what (l, some y) s3 := hs3
    obtain ⟨v, ke2⟩ := hs4.err1
    repeat' (first | refine KW.seq ?_ | refine KW.region ?_ | refine KO.nil ?_ | refine At.then_normal ?_ | refine KW.skip ?_ | refine KW.ret ?_ | refine At.then_ret ?_ | refine KW.block ?_ | refine KW.exit ?_ | refine At.block_normal ?_ | refine At.block_ret ?_ | refine At.loop_ret ?_ | refine At.then_exit ?_ | refine At.block_here rfl ?_ | refine At.block_there rfl ?_ | refine At.loop_exit ?_ | refine At.cut_ret ?_ | refine At.cutA_ret ?_ | refine At.cutA_exit ?_ | refine At.cut_exit ?_ | (refine At.cut_same ?_; repeat' (first | exact FLe.nil _ | refine FLe.cons rfl rfl ?_)) | refine KW.cond_t rfl (by first | with_reducible rfl | decide) ?_ | refine KW.cond_f rfl (by first | with_reducible rfl | decide) ?_ | refine KW.scope ?_ | refine KW.label ?_ | refine At.scope_normal ?_ | refine At.scope_ret ?_ | refine At.scope_exit ?_ | refine KO.skip' rfl (by first | with_reducible rfl | decide) rfl rfl ?_ | refine KO.skip0' rfl (by first | with_reducible rfl | decide) rfl ?_ | refine KO.skipIn rfl (by first | with_reducible rfl | decide) rfl rfl ?_ | ((first | apply KO.val rfl rfl rfl ?kq ?_ | apply KO.valIn rfl rfl rfl ?kq ?_); (case kq => ((first | apply qt_ev rfl ?hi | ((first | apply qt_load1 rfl rfl ?hi rfl rfl ?hm ?hc | apply qt_loadN rfl rfl ?hi rfl rfl rfl ?hm ?hc); (case hm => repeat (first | exact List.Mem.head _ | apply List.Mem.tail _ | apply List.mem_append_right _)); (case hc => rfl)) | apply qt_pick_t rfl rfl (by first | with_reducible rfl | decide) rfl ?hi | apply qt_pick_f rfl rfl (by first | with_reducible rfl | decide) rfl ?hi | ((first | apply qt_pick_and rfl rfl rfl ?hi ?pj | apply qt_pick_or rfl rfl rfl ?hi ?pj); (case pj => (intro h h2; first | with_reducible exact h2 | with_reducible exact andi h h2 | (rw [h2]; rfl) | (rw [h, h2]; rfl) | with_reducible rfl | (simp [h2]; done) | (simp_all; done)))) | apply qt_cap rfl rfl ?hi rfl | apply qt_eqs rfl rfl rfl ?hi rfl (Or.inl rfl) | apply qt_nes rfl rfl rfl ?hi rfl (Or.inl rfl) | apply qt_eqs rfl rfl rfl ?hi rfl (Or.inr ⟨rfl, rfl, rfl⟩) | apply qt_nes rfl rfl rfl ?hi rfl (Or.inr ⟨rfl, rfl, rfl⟩)); (case hi => (intro h; (repeat' (first | with_reducible exact alln | with_reducible refine allc ?_ ?_ | with_reducible refine andi ?_ ?_)); all_goals (first | with_reducible rfl | with_reducible exact h | with_reducible exact andl h | with_reducible exact andr h | with_reducible exact andl (andl h) | (simp only [h, Bool.and_self]; done) | (simp [h]; done) | (simp_all; done))))))) | (refine KO.alloc rfl rfl rfl rfl rfl rfl ?_; intro _ _) | (apply KO.store (i := _) rfl rfl rfl rfl rfl rfl rfl rfl ?hl ?sg ?hw ?ho ?hs; (case sg => first | exact (rfl : getI 0 _ = _) | exact (rfl : getI 1 _ = _) | exact (rfl : getI 2 _ = _) | exact (rfl : getI 3 _ = _) | exact (rfl : getI 4 _ = _) | exact (rfl : getI 5 _ = _) | exact (rfl : getI 6 _ = _) | exact (rfl : getI 7 _ = _)); (case hl => rfl); (case hw => rfl); (case ho => rfl); (case hs => rfl)) | (refine KW.cond rfl ?_ ?_ <;> (intro hc; try simp only [kBool] at hc)) | exact absurd trivial ‹¬True› | ((first | apply KO.val (g := true) rfl rfl rfl | apply KO.val rfl rfl rfl | apply KO.valIn rfl rfl rfl); (first | (apply qt_loadN_cel rfl rfl ?hi rfl rfl rfl ?hl ?hc; (case hc => exact fun _ => (ke _ (fun q hq => List.mem_cons_of_mem _ (List.mem_cons_of_mem _ hq)))); (case hl => rfl)) | (apply qt_loadN_cel rfl rfl ?hi rfl rfl rfl ?hl ?hc; (case hc => exact fun _ => (hrd _ (fun q hq => List.mem_cons_of_mem _ (List.mem_cons_of_mem _ hq)))); (case hl => rfl)) | (apply qt_loadN_cel rfl rfl ?hi rfl rfl rfl ?hl ?hc; (case hc => exact fun _ => (ke2 _ (fun q hq => List.mem_cons_of_mem _ hq))); (case hl => rfl)) | (apply qt_loadN_cel rfl rfl ?hi rfl rfl rfl ?hl ?hc; (case hc => exact fun _ => (ke2 _ (fun q hq => List.mem_cons_of_mem _ (List.mem_append_left _ hq)))); (case hl => rfl)) | (apply qt_load1_cel rfl rfl ?hi rfl rfl ?hc; (case hc => first | exact fun _ => (ke _ (fun q hq => List.mem_cons_of_mem _ (List.mem_cons_of_mem _ hq))) | exact fun _ => (hrd _ (fun q hq => List.mem_cons_of_mem _ (List.mem_cons_of_mem _ hq))) | exact fun _ => (ke2 _ (fun q hq => List.mem_cons_of_mem _ hq)) | exact fun _ => (ke2 _ (fun q hq => List.mem_cons_of_mem _ (List.mem_append_left _ hq)))))); (case hi => (first | exact fun _ => rfl | (intro h; first | rfl | exact h | (simp [h]; done) | (simp_all; done))))) | (exfalso; omega) | (refine KO.callF s3 [(bn, cl [.int .i64 st, .int .i64 op, .int .u64 ((0 : Nat) : Int), .int .i64 0, .int .i64 0, .int .i64 0, .int .i64 0, .int .i64 0, .int .i64 0, .bool false, .int .u64 ((0 : Nat) : Int), .int .i64 0, .int .i64 0, .slice none 0 0, .int .i64 0, .int .i64 0, .int .i64 0] 44)] (List.perm_append_singleton _ _).symm rfl rfl rfl rfl rfl rfl rfl (wrongT_p _ bf sOp what 18 hs3) ?_; rintro _ s5 hs5; refine KO.perm (σ' := (bn, cl [.int .i64 st, .int .i64 op, .int .u64 ((0 : Nat) : Int), .int .i64 0, .int .i64 0, .int .i64 0, .int .i64 0, .int .i64 0, .int .i64 0, .bool false, .int .u64 ((0 : Nat) : Int), .int .i64 0, .int .i64 0, .slice none 0 0, .int .i64 0, .int .i64 0, .int .i64 0] 44) :: s5) (List.perm_append_singleton _ _) ?_) | (refine KO.callF s3 [(bn, cl [.int .i64 st, .int .i64 op, .int .u64 ((0 : Nat) : Int), .int .i64 0, .int .i64 0, .int .i64 0, .int .i64 0, .int .i64 0, .int .i64 0, .bool false, .int .u64 ((0 : Nat) : Int), .int .i64 0, .int .i64 0, .slice none 0 0, .int .i64 0, .int .i64 0, .int .i64 0] 44)] (List.perm_append_singleton _ _).symm rfl rfl rfl rfl rfl rfl rfl (wrongT_p _ bf sOp what 1 hs3) ?_; rintro _ s5 hs5; refine KO.perm (σ' := (bn, cl [.int .i64 st, .int .i64 op, .int .u64 ((0 : Nat) : Int), .int .i64 0, .int .i64 0, .int .i64 0, .int .i64 0, .int .i64 0, .int .i64 0, .bool false, .int .u64 ((0 : Nat) : Int), .int .i64 0, .int .i64 0, .slice none 0 0, .int .i64 0, .int .i64 0, .int .i64 0] 44) :: s5) (List.perm_append_singleton _ _) ?_) | (refine KO.callF ((bn, cl [.int .i64 st, .int .i64 op, .int .u64 ((0 : Nat) : Int), .int .i64 0, .int .i64 0, .int .i64 0, .int .i64 0, .int .i64 0, .int .i64 0, .bool false, .int .u64 ((0 : Nat) : Int), .int .i64 0, .int .i64 0, .slice none 0 0, .int .i64 0, .int .i64 0, .int .i64 0] 44) :: s3) [] (List.Perm.of_eq (List.append_nil _).symm) rfl rfl rfl rfl rfl rfl rfl htell2 ?_; rintro _ _ ⟨s5, μ, mv, hs5, hmv, rfl⟩; refine KO.perm (σ' := (bn, cl _ 44) :: (s5 ++ μ)) (List.Perm.of_eq (List.append_nil _)) ?_) | (exfalso; omega) | fail)
    exact At.done_ret [] trivial ⟨(bn, cl [.int .i64 st, .int .i64 (iI (tkF1 (l, some y) (sOp, 1)).2), .int .u64 ((0 : Nat) : Int), .int .i64 0, .int .i64 0, .int .i64 0, .int .i64 0, .int .i64 0, .int .i64 0, .bool false, .int .u64 ((0 : Nat) : Int), .int .i64 0, .int .i64 0, .slice none 0 0, .int .i64 0, .int .i64 0, .int .i64 0] 44) :: s3, List.Sublist.cons_cons _ (List.sublist_append_left _ _), s3, [], .slice none 0 0, hs4, MvR.nil _, by rw [List.append_nil]; rfl⟩
end Go.Proofs.YtnaclkdjchnbpaaDoor
end
section
namespace Go.Proofs.YtnaclkdjchnbpaaDoor
open Go Go.K Go.Extern

theorem xv_typeF (b : Nat) : XV Tryd.prog 67 [rv 102 b 150] (rt 102) := ⟨fun w => by kernel_rfl⟩
theorem xa_valF (p : Option Addr) : XA Tryd.prog 66 [.iface 102 (.pointer p)] (fun b => rv 102 b 150) [.pointer p] 102 := ⟨fun w => by kernel_rfl⟩
theorem xa_valG (p : Option Addr) : XA Tryd.prog 66 [.iface 100 (.pointer p)] (fun b => rv 100 b 150) [.pointer p] 100 := ⟨fun w => by kernel_rfl⟩
theorem xv_kindF : XV Tryd.prog 92 [hdl 102] (.int .u8 22) := ⟨fun w => by kernel_rfl⟩
theorem xv_kindG : XV Tryd.prog 92 [hdl 100] (.int .u8 22) := ⟨fun w => by kernel_rfl⟩
theorem xv_elemF : XV Tryd.prog 106 [.agg #[hdl 102]] (rt 100) := ⟨fun w => by kernel_rfl⟩
theorem xv_implF : XV Tryd.prog 107 [.agg #[hdl 100], rt 29] (.bool true) := ⟨fun w => by kernel_rfl⟩
theorem xv_asG : XV Tryd.prog 104 [.agg #[hdl 100], rt 100] (.bool true) := ⟨fun w => by kernel_rfl⟩
theorem partsF (b : Nat) (w : World) : (ReflectliteValue.parts (rv 102 b 150)).run Tryd.prog w = .ok (some (102, ⟨b, 0, none⟩, 150)) w := by kernel_rfl
theorem partsG (b : Nat) (w : World) : (ReflectliteValue.parts (rv 100 b 150)).run Tryd.prog w = .ok (some (100, ⟨b, 0, none⟩, 150)) w := by kernel_rfl
theorem partsH (b : Nat) (w : World) : (ReflectliteValue.parts (rv 100 b 406)).run Tryd.prog w = .ok (some (100, ⟨b, 0, none⟩, 406)) w := by kernel_rfl
theorem x_isNilF (b p : Nat) (w : World) (ha : w.cell? ⟨b, 0, none⟩ = some (.pointer (some ⟨p, 0, none⟩))) : (callFunc 68 #[rv 102 b 150]).run Tryd.prog w = .ok (.value (.bool false)) w := by
  rw [@run_callFunc_extern Tryd.prog 68 _ (ReflectliteValue.method (ReflectliteValue.valueError "reflectlite.Value.IsNil" 0) ReflectliteValue.isNil) Tryd.func68 (by kernel_rfl) (by kernel_rfl) (by kernel_rfl) (by kernel_rfl), rlm]
  simp only [Sem.run_bind, partsF, Result.andThen]
  simp [ReflectliteValue.isNil, loadVar, isAgg, underlying, Tryd.underlying102, ha, Result.andThen]
theorem elemOfF (w : World) : (Rtype.elem? 102).run Tryd.prog w = .ok (some 100) w := by kernel_rfl
theorem mkF (p : Nat) (w : World) : (ReflectliteValue.mk 100 ⟨p, 0, none⟩ ReflectliteValue.flagAddr).run Tryd.prog w = .ok (rv 100 p 406) w := by kernel_rfl
theorem x_elemF (b p : Nat) (w : World) (ha : w.cell? ⟨b, 0, none⟩ = some (.pointer (some ⟨p, 0, none⟩))) : (callFunc 75 #[rv 102 b 150]).run Tryd.prog w = .ok (.value (rv 100 p 406)) w := by
  rw [@run_callFunc_extern Tryd.prog 75 _ (ReflectliteValue.method (ReflectliteValue.valueError "reflectlite.Value.Elem" 0) ReflectliteValue.elem) Tryd.func75 (by kernel_rfl) (by kernel_rfl) (by kernel_rfl) (by kernel_rfl), rlm]
  simp only [Sem.run_bind, partsF, Result.andThen]
  simp [ReflectliteValue.elem, loadVar, isAgg, underlying, Tryd.underlying102, ha, Result.andThen, elemOfF, mkF]
theorem directF (w : World) : (Rtype.directlyAssignable 100 100).run Tryd.prog w = .ok true w := by kernel_rfl
theorem sizeF (w : World) : (sizeOf 100).run Tryd.prog w = .ok 1 w := by kernel_rfl
theorem x_setF (p b : Nat) (q : Option Addr) (old : Value) (w : World) (hb : w.cell? ⟨b, 0, none⟩ = some (.pointer q)) (ht : w.cell? ⟨p, 0, none⟩ = some old) (hf : w.frozen? ⟨p, 0, none⟩ = false) :
    (callFunc 76 #[rv 100 p 406, rv 100 b 150]).run Tryd.prog w = .ok (.value (.tuple #[])) (w.setCell ⟨p, 0, none⟩ (.pointer q)) := by
  rw [@run_callFunc_extern Tryd.prog 76 _ ReflectliteValue.set Tryd.func76 (by kernel_rfl) (by kernel_rfl) (by kernel_rfl) (by kernel_rfl), rls]
  simp only [Sem.run_bind, partsH, partsG, Result.andThen]
  simp [ReflectliteValue.flagAddr, loadVar, isAgg, underlying, Tryd.underlying100, hb, Result.andThen, directF, storeVar, Value.cells, storeCells, Addr.add, sizeF]
  rw [run_store Tryd.prog w ⟨p, 0, none⟩ _ _ (by rfl)]
  simp [ht, hf]
theorem q_isNilF {L : Look} {σ : Heap} {g : Bool} {o : Oper} {r : Option Nat} {N b p : Nat} {E : Env} {H : Heap} {args : Array Operand} {ts : Array TypeId} {gs : List Bool} (ho : o.op = .call ⟨.value (.func 68), args, ts⟩)
    (ha : opnds L args.toList = some (gs, [rv 102 b 150])) (hi : g = true → gs.all id = true) (hc : (b, cl [.pointer (some ⟨p, 0, none⟩)] 102) ∈ σ) : Qt ⟨Tryd.prog, Tryd.tt, r, N, E, H⟩ L σ g o (.bool false) :=
  qt_extR ho ha hi (fun _ w hO => x_isNilF b p w (by rw [cell_of_cl (hO.has.has _ hc)]; rfl))
theorem q_elemF {L : Look} {σ : Heap} {g : Bool} {o : Oper} {r : Option Nat} {N b p : Nat} {E : Env} {H : Heap} {args : Array Operand} {ts : Array TypeId} {gs : List Bool} (ho : o.op = .call ⟨.value (.func 75), args, ts⟩)
    (ha : opnds L args.toList = some (gs, [rv 102 b 150])) (hi : g = true → gs.all id = true) (hc : (b, cl [.pointer (some ⟨p, 0, none⟩)] 102) ∈ σ) : Qt ⟨Tryd.prog, Tryd.tt, r, N, E, H⟩ L σ g o (rv 100 p 406) :=
  qt_extR ho ha hi (fun _ w hO => x_elemF b p w (by rw [cell_of_cl (hO.has.has _ hc)]; rfl))
def asG (bc ba : Nat) (q : Value) : Heap := [(bc, cl [q] 100), (ba, cl [.pointer (some ⟨bc, 0, none⟩)] 102)]
set_option maxRecDepth 4000 in
set_option maxHeartbeats 4000000 in
theorem asF_p (β : Nat → Option Obj) (bc ba e1 : Nat) :
    Go.K.Tr Tryd.prog 69 [.iface 100 (.pointer (some ⟨e1, 0, none⟩)), .iface 102 (.pointer (some ⟨bc, 0, none⟩)), rv 102 ba 150, rt 100] β (asG bc ba (.pointer none)) (fun v σ' => v = .bool true ∧ σ' = asG bc ba (.pointer (some ⟨e1, 0, none⟩))) := by
  refine Tr.sub ?_
  refine Tr.of_body Tryd.tt (args := [.iface 100 (.pointer (some ⟨e1, 0, none⟩)), .iface 102 (.pointer (some ⟨bc, 0, none⟩)), rv 102 ba 150, rt 100]) (fr := [(0, true, .iface 100 (.pointer (some ⟨e1, 0, none⟩))), (1, true, .iface 102 (.pointer (some ⟨bc, 0, none⟩))), (2, true, rv 102 ba 150), (3, true, rt 100)]) Tryd.func69 rfl (by decide) rfl Tryd.ntmps69 rfl rfl ?_
  intro E hE
  subst hE
  repeat' (first | refine KW.seq ?_ | refine KW.region ?_ | refine KO.nil ?_ | refine At.then_normal ?_ | refine KW.skip ?_ | refine KW.ret ?_ | refine At.then_ret ?_ | refine KW.block ?_ | refine KW.exit ?_ | refine At.block_normal ?_ | refine At.block_ret ?_ | refine At.loop_ret ?_ | refine At.then_exit ?_ | refine At.block_here rfl ?_ | refine At.block_there rfl ?_ | refine At.loop_exit ?_ | refine At.cut_ret ?_ | refine At.cutA_ret ?_ | refine At.cutA_exit ?_ | refine At.cut_exit ?_ | (refine At.cut_same ?_; repeat' (first | exact FLe.nil _ | refine FLe.cons rfl rfl ?_)) | refine KW.cond_t rfl (by first | with_reducible rfl | decide) ?_ | refine KW.cond_f rfl (by first | with_reducible rfl | decide) ?_ | refine KW.scope ?_ | refine KW.label ?_ | refine At.scope_normal ?_ | refine At.scope_ret ?_ | refine At.scope_exit ?_ | refine KO.skip' rfl (by first | with_reducible rfl | decide) rfl rfl ?_ | refine KO.skip0' rfl (by first | with_reducible rfl | decide) rfl ?_ | refine KO.skipIn rfl (by first | with_reducible rfl | decide) rfl rfl ?_ | ((first | apply KO.val rfl rfl rfl ?kq ?_ | apply KO.valIn rfl rfl rfl ?kq ?_); (case kq => ((first | ((first | apply qt_add rfl rfl rfl ?hi ?om | apply qt_indexAddr_arr rfl rfl rfl ?hi rfl rfl ?om | apply qt_indexAddr_slice rfl rfl rfl ?hi rfl rfl ?om); (case om => (intro hg; first | omega | (simp only [kBool] at hg; omega)))) | apply qt_ev rfl ?hi | ((first | apply qt_load1 rfl rfl ?hi rfl rfl ?hm ?hc | apply qt_loadN rfl rfl ?hi rfl rfl rfl ?hm ?hc); (case hm => repeat (first | exact List.Mem.head _ | apply List.Mem.tail _ | apply List.mem_append_right _)); (case hc => rfl)) | apply qt_pick_t rfl rfl (by first | with_reducible rfl | decide) rfl ?hi | apply qt_pick_f rfl rfl (by first | with_reducible rfl | decide) rfl ?hi | ((first | apply qt_pick_and rfl rfl rfl ?hi ?pj | apply qt_pick_or rfl rfl rfl ?hi ?pj); (case pj => (intro h h2; first | with_reducible exact h2 | with_reducible exact andi h h2 | (rw [h2]; rfl) | (rw [h, h2]; rfl) | with_reducible rfl | (simp [h2]; done) | (simp_all; done)))) | apply qt_cap rfl rfl ?hi rfl | apply qt_eqs rfl rfl rfl ?hi rfl (Or.inl rfl) | apply qt_nes rfl rfl rfl ?hi rfl (Or.inl rfl) | apply qt_eqs rfl rfl rfl ?hi rfl (Or.inr ⟨rfl, rfl, rfl⟩) | apply qt_nes rfl rfl rfl ?hi rfl (Or.inr ⟨rfl, rfl, rfl⟩)); (case hi => (intro h; (repeat' (first | with_reducible exact alln | with_reducible refine allc ?_ ?_ | with_reducible refine andi ?_ ?_)); all_goals (first | with_reducible rfl | with_reducible exact h | with_reducible exact andl h | with_reducible exact andr h | with_reducible exact andl (andl h) | (simp only [h, Bool.and_self]; done) | (simp [h]; done) | (simp_all; done))))))) | (refine KO.box rfl rfl rfl rfl rfl rfl ?_; intro _ _) | (refine KW.cond rfl ?_ ?_ <;> (intro hc; try simp only [kBool] at hc)) | exact absurd trivial ‹¬True› | fail)
  rename_i b6 _
  refine KW.loop (fun _ : Unit => True) (fun _ => ([(0, true, .iface 100 (.pointer (some ⟨e1, 0, none⟩))), (1, true, .iface 102 (.pointer (some ⟨bc, 0, none⟩))), (3, true, rt 100), (6, true, .pointer (some ⟨b6, 0, none⟩))], (b6, cl [hdl 102, .pointer (some ⟨ba, 0, none⟩), .int .u64 150] 130) :: asG bc ba (.pointer none))) (fun _ => 0) ()
    trivial (Le.perm (by repeat' (first | exact FLe.nil _ | refine FLe.cons rfl rfl ?_)) (by classical exact List.perm_iff_count.2 (fun _ => by first | (simp only [List.count_append, List.count_cons, List.count_nil, List.append_assoc, List.cons_append, List.nil_append]; done) | (simp only [List.count_append, List.count_cons, List.count_nil, List.append_assoc, List.cons_append, List.nil_append]; omega)))) ?_
  intro _ _
  dsimp only
  unfold asG
  repeat' (first | refine KW.seq ?_ | refine KW.region ?_ | refine KO.nil ?_ | refine At.then_normal ?_ | refine KW.skip ?_ | refine KW.ret ?_ | refine At.then_ret ?_ | refine KW.block ?_ | refine KW.exit ?_ | refine At.block_normal ?_ | refine At.block_ret ?_ | refine At.loop_ret ?_ | refine At.then_exit ?_ | refine At.block_here rfl ?_ | refine At.block_there rfl ?_ | refine At.loop_exit ?_ | refine At.cut_ret ?_ | refine At.cutA_ret ?_ | refine At.cutA_exit ?_ | refine At.cut_exit ?_ | (refine At.cut_same ?_; repeat' (first | exact FLe.nil _ | refine FLe.cons rfl rfl ?_)) | refine KW.cond_t rfl (by first | with_reducible rfl | decide) ?_ | refine KW.cond_f rfl (by first | with_reducible rfl | decide) ?_ | refine KW.scope ?_ | refine KW.label ?_ | refine At.scope_normal ?_ | refine At.scope_ret ?_ | refine At.scope_exit ?_ | refine KO.skip' rfl (by first | with_reducible rfl | decide) rfl rfl ?_ | refine KO.skip0' rfl (by first | with_reducible rfl | decide) rfl ?_ | refine KO.skipIn rfl (by first | with_reducible rfl | decide) rfl rfl ?_ | ((first | apply KO.val rfl rfl rfl ?kq ?_ | apply KO.valIn rfl rfl rfl ?kq ?_); (case kq => ((first | ((first | apply qt_add rfl rfl rfl ?hi ?om | apply qt_indexAddr_arr rfl rfl rfl ?hi rfl rfl ?om | apply qt_indexAddr_slice rfl rfl rfl ?hi rfl rfl ?om); (case om => (intro hg; first | omega | (simp only [kBool] at hg; omega)))) | apply qt_ev rfl ?hi | ((first | apply qt_load1 rfl rfl ?hi rfl rfl ?hm ?hc | apply qt_loadN rfl rfl ?hi rfl rfl rfl ?hm ?hc); (case hm => repeat (first | exact List.Mem.head _ | apply List.Mem.tail _ | apply List.mem_append_right _)); (case hc => rfl)) | refine qt_xv rfl rfl ?hi (xv_toF _) | refine qt_xi rfl rfl rfl ?hi (me_assn _) xv_asG | apply qt_pick_t rfl rfl (by first | with_reducible rfl | decide) rfl ?hi | apply qt_pick_f rfl rfl (by first | with_reducible rfl | decide) rfl ?hi | ((first | apply qt_pick_and rfl rfl rfl ?hi ?pj | apply qt_pick_or rfl rfl rfl ?hi ?pj); (case pj => (intro h h2; first | with_reducible exact h2 | with_reducible exact andi h h2 | (rw [h2]; rfl) | (rw [h, h2]; rfl) | with_reducible rfl | (simp [h2]; done) | (simp_all; done)))) | apply qt_cap rfl rfl ?hi rfl | apply qt_eqs rfl rfl rfl ?hi rfl (Or.inl rfl) | apply qt_nes rfl rfl rfl ?hi rfl (Or.inl rfl) | apply qt_eqs rfl rfl rfl ?hi rfl (Or.inr ⟨rfl, rfl, rfl⟩) | apply qt_nes rfl rfl rfl ?hi rfl (Or.inr ⟨rfl, rfl, rfl⟩)); (case hi => (intro h; (repeat' (first | with_reducible exact alln | with_reducible refine allc ?_ ?_ | with_reducible refine andi ?_ ?_)); all_goals (first | with_reducible rfl | with_reducible exact h | with_reducible exact andl h | with_reducible exact andr h | with_reducible exact andl (andl h) | (simp only [h, Bool.and_self]; done) | (simp [h]; done) | (simp_all; done))))))) | (refine KO.box rfl rfl rfl rfl rfl rfl ?_; intro _ _) | (refine KW.cond rfl ?_ ?_ <;> (intro hc; try simp only [kBool] at hc)) | exact absurd trivial ‹¬True› | fail)
  refine KO.val rfl rfl rfl (q_elemF (b := ba) (p := bc) rfl rfl (by intro _; rfl) (by simp)) ?_
  repeat' (first | refine KW.seq ?_ | refine KW.region ?_ | refine KO.nil ?_ | refine At.then_normal ?_ | refine KW.skip ?_ | refine KW.ret ?_ | refine At.then_ret ?_ | refine KW.block ?_ | refine KW.exit ?_ | refine At.block_normal ?_ | refine At.block_ret ?_ | refine At.loop_ret ?_ | refine At.then_exit ?_ | refine At.block_here rfl ?_ | refine At.block_there rfl ?_ | refine At.loop_exit ?_ | refine At.cut_ret ?_ | refine At.cutA_ret ?_ | refine At.cutA_exit ?_ | refine At.cut_exit ?_ | (refine At.cut_same ?_; repeat' (first | exact FLe.nil _ | refine FLe.cons rfl rfl ?_)) | refine KW.cond_t rfl (by first | with_reducible rfl | decide) ?_ | refine KW.cond_f rfl (by first | with_reducible rfl | decide) ?_ | refine KW.scope ?_ | refine KW.label ?_ | refine At.scope_normal ?_ | refine At.scope_ret ?_ | refine At.scope_exit ?_ | refine KO.skip' rfl (by first | with_reducible rfl | decide) rfl rfl ?_ | refine KO.skip0' rfl (by first | with_reducible rfl | decide) rfl ?_ | refine KO.skipIn rfl (by first | with_reducible rfl | decide) rfl rfl ?_ | ((first | apply KO.val rfl rfl rfl ?kq ?_ | apply KO.valIn rfl rfl rfl ?kq ?_); (case kq => ((first | ((first | apply qt_add rfl rfl rfl ?hi ?om | apply qt_indexAddr_arr rfl rfl rfl ?hi rfl rfl ?om | apply qt_indexAddr_slice rfl rfl rfl ?hi rfl rfl ?om); (case om => (intro hg; first | omega | (simp only [kBool] at hg; omega)))) | apply qt_ev rfl ?hi | ((first | apply qt_load1 rfl rfl ?hi rfl rfl ?hm ?hc | apply qt_loadN rfl rfl ?hi rfl rfl rfl ?hm ?hc); (case hm => repeat (first | exact List.Mem.head _ | apply List.Mem.tail _ | apply List.mem_append_right _)); (case hc => rfl)) | apply qt_pick_t rfl rfl (by first | with_reducible rfl | decide) rfl ?hi | apply qt_pick_f rfl rfl (by first | with_reducible rfl | decide) rfl ?hi | ((first | apply qt_pick_and rfl rfl rfl ?hi ?pj | apply qt_pick_or rfl rfl rfl ?hi ?pj); (case pj => (intro h h2; first | with_reducible exact h2 | with_reducible exact andi h h2 | (rw [h2]; rfl) | (rw [h, h2]; rfl) | with_reducible rfl | (simp [h2]; done) | (simp_all; done)))) | apply qt_cap rfl rfl ?hi rfl | apply qt_eqs rfl rfl rfl ?hi rfl (Or.inl rfl) | apply qt_nes rfl rfl rfl ?hi rfl (Or.inl rfl) | apply qt_eqs rfl rfl rfl ?hi rfl (Or.inr ⟨rfl, rfl, rfl⟩) | apply qt_nes rfl rfl rfl ?hi rfl (Or.inr ⟨rfl, rfl, rfl⟩)); (case hi => (intro h; (repeat' (first | with_reducible exact alln | with_reducible refine allc ?_ ?_ | with_reducible refine andi ?_ ?_)); all_goals (first | with_reducible rfl | with_reducible exact h | with_reducible exact andl h | with_reducible exact andr h | with_reducible exact andl (andl h) | (simp only [h, Bool.and_self]; done) | (simp [h]; done) | (simp_all; done))))))) | (refine KO.box rfl rfl rfl rfl rfl rfl ?_; intro _ _) | (refine KW.cond rfl ?_ ?_ <;> (intro hc; try simp only [kBool] at hc)) | exact absurd trivial ‹¬True› | fail)
  refine KO.xa rfl rfl rfl rfl rfl rfl (xa_valG _) ?_
  intro bn hbn
  refine KO.ofEO rfl rfl rfl (eo_extS (b := bc) (off := 0) (i := 2) (v := .pointer (some ⟨e1, 0, none⟩)) (r := .tuple #[]) rfl rfl rfl rfl rfl (by simp) rfl (fun w hO => x_setF bc bn (some ⟨e1, 0, none⟩) (.pointer none) w (by rw [cell_of_cl (hO.has.has (bn, cl [.pointer (some ⟨e1, 0, none⟩)] 100) (by simp))]; rfl) (by rw [cell_of_cl (hO.has.has (bc, cl [.pointer none] 100) (by simp))]; rfl) (frozen_of_cl (hO.has.has (bc, cl [.pointer none] 100) (by simp))))) ?_
  rintro _ _ ⟨rfl, rfl⟩
  repeat' (first | refine KW.seq ?_ | refine KW.region ?_ | refine KO.nil ?_ | refine At.then_normal ?_ | refine KW.skip ?_ | refine KW.ret ?_ | refine At.then_ret ?_ | refine KW.block ?_ | refine KW.exit ?_ | refine At.block_normal ?_ | refine At.block_ret ?_ | refine At.loop_ret ?_ | refine At.then_exit ?_ | refine At.block_here rfl ?_ | refine At.block_there rfl ?_ | refine At.loop_exit ?_ | refine At.cut_ret ?_ | refine At.cutA_ret ?_ | refine At.cutA_exit ?_ | refine At.cut_exit ?_ | (refine At.cut_same ?_; repeat' (first | exact FLe.nil _ | refine FLe.cons rfl rfl ?_)) | refine KW.cond_t rfl (by first | with_reducible rfl | decide) ?_ | refine KW.cond_f rfl (by first | with_reducible rfl | decide) ?_ | refine KW.scope ?_ | refine KW.label ?_ | refine At.scope_normal ?_ | refine At.scope_ret ?_ | refine At.scope_exit ?_ | refine KO.skip' rfl (by first | with_reducible rfl | decide) rfl rfl ?_ | refine KO.skip0' rfl (by first | with_reducible rfl | decide) rfl ?_ | refine KO.skipIn rfl (by first | with_reducible rfl | decide) rfl rfl ?_ | ((first | apply KO.val rfl rfl rfl ?kq ?_ | apply KO.valIn rfl rfl rfl ?kq ?_); (case kq => ((first | ((first | apply qt_add rfl rfl rfl ?hi ?om | apply qt_indexAddr_arr rfl rfl rfl ?hi rfl rfl ?om | apply qt_indexAddr_slice rfl rfl rfl ?hi rfl rfl ?om); (case om => (intro hg; first | omega | (simp only [kBool] at hg; omega)))) | apply qt_ev rfl ?hi | ((first | apply qt_load1 rfl rfl ?hi rfl rfl ?hm ?hc | apply qt_loadN rfl rfl ?hi rfl rfl rfl ?hm ?hc); (case hm => repeat (first | exact List.Mem.head _ | apply List.Mem.tail _ | apply List.mem_append_right _)); (case hc => rfl)) | apply qt_pick_t rfl rfl (by first | with_reducible rfl | decide) rfl ?hi | apply qt_pick_f rfl rfl (by first | with_reducible rfl | decide) rfl ?hi | ((first | apply qt_pick_and rfl rfl rfl ?hi ?pj | apply qt_pick_or rfl rfl rfl ?hi ?pj); (case pj => (intro h h2; first | with_reducible exact h2 | with_reducible exact andi h h2 | (rw [h2]; rfl) | (rw [h, h2]; rfl) | with_reducible rfl | (simp [h2]; done) | (simp_all; done)))) | apply qt_cap rfl rfl ?hi rfl | apply qt_eqs rfl rfl rfl ?hi rfl (Or.inl rfl) | apply qt_nes rfl rfl rfl ?hi rfl (Or.inl rfl) | apply qt_eqs rfl rfl rfl ?hi rfl (Or.inr ⟨rfl, rfl, rfl⟩) | apply qt_nes rfl rfl rfl ?hi rfl (Or.inr ⟨rfl, rfl, rfl⟩)); (case hi => (intro h; (repeat' (first | with_reducible exact alln | with_reducible refine allc ?_ ?_ | with_reducible refine andi ?_ ?_)); all_goals (first | with_reducible rfl | with_reducible exact h | with_reducible exact andl h | with_reducible exact andr h | with_reducible exact andl (andl h) | (simp only [h, Bool.and_self]; done) | (simp [h]; done) | (simp_all; done))))))) | (refine KO.box rfl rfl rfl rfl rfl rfl ?_; intro _ _) | (refine KW.cond rfl ?_ ?_ <;> (intro hc; try simp only [kBool] at hc)) | exact absurd trivial ‹¬True› | fail)
  ((first | apply At.done_ret | apply At.done_normal); (focus (repeat' (first | exact ResVs.nil' | apply ResVs.cons' | exact ResV.tmp' rfl | (apply ResV.cell1 rfl ?hm rfl rfl ?hc; (case hm => repeat (first | exact List.Mem.head _ | apply List.Mem.tail _ | apply List.mem_append_right _)); (case hc => rfl)) | (apply ResV.cellN rfl ?hm rfl rfl rfl ?hc; (case hm => repeat (first | exact List.Mem.head _ | apply List.Mem.tail _ | apply List.mem_append_right _)); (case hc => rfl))))); dsimp only [resVal])
  exact ⟨asG bc ba (.pointer (some ⟨e1, 0, none⟩)), .cons _ (.cons _ (List.Sublist.refl _)), rfl, rfl⟩
set_option maxHeartbeats 4000000 in
theorem AsF_p (β : Nat → Option Obj) (hty : TBE β) (bc e1 : Nat) :
    Go.K.Tr Tryd.prog 47 [.iface 100 (.pointer (some ⟨e1, 0, none⟩)), .iface 102 (.pointer (some ⟨bc, 0, none⟩))] β [(bc, cl [.pointer none] 100)] (fun v σ' => v = .bool true ∧ σ' = [(bc, cl [.pointer (some ⟨e1, 0, none⟩)] 100)]) := by
  refine Tr.sub ?_
  refine Tr.of_body Tryd.tt (args := [.iface 100 (.pointer (some ⟨e1, 0, none⟩)), .iface 102 (.pointer (some ⟨bc, 0, none⟩))]) (fr := [(0, true, .iface 100 (.pointer (some ⟨e1, 0, none⟩))), (1, true, .iface 102 (.pointer (some ⟨bc, 0, none⟩)))]) Tryd.func47 rfl (by decide) rfl Tryd.ntmps47 rfl rfl ?_
  intro E hE
  subst hE
  repeat' (first | refine KW.seq ?_ | refine KW.region ?_ | refine KO.nil ?_ | refine At.then_normal ?_ | refine KW.skip ?_ | refine KW.ret ?_ | refine At.then_ret ?_ | refine KW.block ?_ | refine KW.exit ?_ | refine At.block_normal ?_ | refine At.block_ret ?_ | refine At.loop_ret ?_ | refine At.then_exit ?_ | refine At.block_here rfl ?_ | refine At.block_there rfl ?_ | refine At.loop_exit ?_ | refine At.cut_ret ?_ | refine At.cutA_ret ?_ | refine At.cutA_exit ?_ | refine At.cut_exit ?_ | (refine At.cut_same ?_; repeat' (first | exact FLe.nil _ | refine FLe.cons rfl rfl ?_)) | refine KW.cond_t rfl (by first | with_reducible rfl | decide) ?_ | refine KW.cond_f rfl (by first | with_reducible rfl | decide) ?_ | refine KW.scope ?_ | refine KW.label ?_ | refine At.scope_normal ?_ | refine At.scope_ret ?_ | refine At.scope_exit ?_ | refine KO.skip' rfl (by first | with_reducible rfl | decide) rfl rfl ?_ | refine KO.skip0' rfl (by first | with_reducible rfl | decide) rfl ?_ | refine KO.skipIn rfl (by first | with_reducible rfl | decide) rfl rfl ?_ | ((first | apply KO.val rfl rfl rfl ?kq ?_ | apply KO.valIn rfl rfl rfl ?kq ?_); (case kq => ((first | apply qt_ev rfl ?hi | ((first | apply qt_load1 rfl rfl ?hi rfl rfl ?hm ?hc | apply qt_loadN rfl rfl ?hi rfl rfl rfl ?hm ?hc); (case hm => repeat (first | exact List.Mem.head _ | apply List.Mem.tail _ | apply List.mem_append_right _)); (case hc => rfl)) | apply qt_pick_t rfl rfl (by first | with_reducible rfl | decide) rfl ?hi | apply qt_pick_f rfl rfl (by first | with_reducible rfl | decide) rfl ?hi | ((first | apply qt_pick_and rfl rfl rfl ?hi ?pj | apply qt_pick_or rfl rfl rfl ?hi ?pj); (case pj => (intro h h2; first | with_reducible exact h2 | with_reducible exact andi h h2 | (rw [h2]; rfl) | (rw [h, h2]; rfl) | with_reducible rfl | (simp [h2]; done) | (simp_all; done)))) | apply qt_cap rfl rfl ?hi rfl | apply qt_eqs rfl rfl rfl ?hi rfl (Or.inl rfl) | apply qt_nes rfl rfl rfl ?hi rfl (Or.inl rfl) | apply qt_eqs rfl rfl rfl ?hi rfl (Or.inr ⟨rfl, rfl, rfl⟩) | apply qt_nes rfl rfl rfl ?hi rfl (Or.inr ⟨rfl, rfl, rfl⟩)); (case hi => (intro h; (repeat' (first | with_reducible exact alln | with_reducible refine allc ?_ ?_ | with_reducible refine andi ?_ ?_)); all_goals (first | with_reducible rfl | with_reducible exact h | with_reducible exact andl h | with_reducible exact andr h | with_reducible exact andl (andl h) | (simp only [h, Bool.and_self]; done) | (simp [h]; done) | (simp_all; done))))))) | (refine KO.alloc rfl rfl rfl rfl rfl rfl ?_; intro _ _) | (apply KO.store (i := _) rfl rfl rfl rfl rfl rfl rfl rfl ?hl ?sg ?hw ?ho ?hs; (case sg => first | exact (rfl : getI 0 _ = _) | exact (rfl : getI 1 _ = _) | exact (rfl : getI 2 _ = _) | exact (rfl : getI 3 _ = _) | exact (rfl : getI 4 _ = _) | exact (rfl : getI 5 _ = _) | exact (rfl : getI 6 _ = _) | exact (rfl : getI 7 _ = _)); (case hl => rfl); (case hw => rfl); (case ho => rfl); (case hs => rfl)) | (refine KW.cond rfl ?_ ?_ <;> (intro hc; try simp only [kBool] at hc)) | exact absurd trivial ‹¬True› | ((first | apply KO.val (g := true) rfl rfl rfl | apply KO.val rfl rfl rfl | apply KO.valIn rfl rfl rfl); (first | (apply qt_loadN_cel rfl rfl ?hi rfl rfl rfl ?hl ?hc; (case hc => exact fun _ => (hty.mono (fun _ hq => by cases hq))); (case hl => rfl)) | (apply qt_load1_cel rfl rfl ?hi rfl rfl ?hc; (case hc => first | exact fun _ => (hty.mono (fun _ hq => by cases hq))))); (case hi => (first | exact fun _ => rfl | (intro h; first | rfl | exact h | (simp [h]; done) | (simp_all; done))))) | fail)
  refine KO.xa rfl rfl rfl rfl rfl rfl (xa_valF _) ?_
  intro ba hba
  repeat' (first | refine KW.seq ?_ | refine KW.region ?_ | refine KO.nil ?_ | refine At.then_normal ?_ | refine KW.skip ?_ | refine KW.ret ?_ | refine At.then_ret ?_ | refine KW.block ?_ | refine KW.exit ?_ | refine At.block_normal ?_ | refine At.block_ret ?_ | refine At.loop_ret ?_ | refine At.then_exit ?_ | refine At.block_here rfl ?_ | refine At.block_there rfl ?_ | refine At.loop_exit ?_ | refine At.cut_ret ?_ | refine At.cutA_ret ?_ | refine At.cutA_exit ?_ | refine At.cut_exit ?_ | (refine At.cut_same ?_; repeat' (first | exact FLe.nil _ | refine FLe.cons rfl rfl ?_)) | refine KW.cond_t rfl (by first | with_reducible rfl | decide) ?_ | refine KW.cond_f rfl (by first | with_reducible rfl | decide) ?_ | refine KW.scope ?_ | refine KW.label ?_ | refine At.scope_normal ?_ | refine At.scope_ret ?_ | refine At.scope_exit ?_ | refine KO.skip' rfl (by first | with_reducible rfl | decide) rfl rfl ?_ | refine KO.skip0' rfl (by first | with_reducible rfl | decide) rfl ?_ | refine KO.skipIn rfl (by first | with_reducible rfl | decide) rfl rfl ?_ | ((first | apply KO.val rfl rfl rfl ?kq ?_ | apply KO.valIn rfl rfl rfl ?kq ?_); (case kq => ((first | apply qt_ev rfl ?hi | ((first | apply qt_load1 rfl rfl ?hi rfl rfl ?hm ?hc | apply qt_loadN rfl rfl ?hi rfl rfl rfl ?hm ?hc); (case hm => repeat (first | exact List.Mem.head _ | apply List.Mem.tail _ | apply List.mem_append_right _)); (case hc => rfl)) | refine qt_xv rfl rfl ?hi (xv_typeF _) | refine qt_xi rfl rfl rfl ?hi (me_kind _) xv_kindF | refine qt_xi rfl rfl rfl ?hi (me_kind _) xv_kindG | refine qt_xi rfl rfl rfl ?hi (me_elem _) xv_elemF | refine qt_xi rfl rfl rfl ?hi (me_impl _) xv_implF | (refine q_isNilF (b := ba) (p := bc) rfl rfl ?hi ?hm; (case hm => repeat (first | exact List.Mem.head _ | apply List.Mem.tail _))) | apply qt_pick_t rfl rfl (by first | with_reducible rfl | decide) rfl ?hi | apply qt_pick_f rfl rfl (by first | with_reducible rfl | decide) rfl ?hi | ((first | apply qt_pick_and rfl rfl rfl ?hi ?pj | apply qt_pick_or rfl rfl rfl ?hi ?pj); (case pj => (intro h h2; first | with_reducible exact h2 | with_reducible exact andi h h2 | (rw [h2]; rfl) | (rw [h, h2]; rfl) | with_reducible rfl | (simp [h2]; done) | (simp_all; done)))) | apply qt_cap rfl rfl ?hi rfl | apply qt_eqs rfl rfl rfl ?hi rfl (Or.inl rfl) | apply qt_nes rfl rfl rfl ?hi rfl (Or.inl rfl) | apply qt_eqs rfl rfl rfl ?hi rfl (Or.inr ⟨rfl, rfl, rfl⟩) | apply qt_nes rfl rfl rfl ?hi rfl (Or.inr ⟨rfl, rfl, rfl⟩)); (case hi => (intro h; (repeat' (first | with_reducible exact alln | with_reducible refine allc ?_ ?_ | with_reducible refine andi ?_ ?_)); all_goals (first | with_reducible rfl | with_reducible exact h | with_reducible exact andl h | with_reducible exact andr h | with_reducible exact andl (andl h) | (simp only [h, Bool.and_self]; done) | (simp [h]; done) | (simp_all; done))))))) | (refine KO.alloc rfl rfl rfl rfl rfl rfl ?_; intro _ _) | (apply KO.store (i := _) rfl rfl rfl rfl rfl rfl rfl rfl ?hl ?sg ?hw ?ho ?hs; (case sg => first | exact (rfl : getI 0 _ = _) | exact (rfl : getI 1 _ = _) | exact (rfl : getI 2 _ = _) | exact (rfl : getI 3 _ = _) | exact (rfl : getI 4 _ = _) | exact (rfl : getI 5 _ = _) | exact (rfl : getI 6 _ = _) | exact (rfl : getI 7 _ = _)); (case hl => rfl); (case hw => rfl); (case ho => rfl); (case hs => rfl)) | (refine KW.cond rfl ?_ ?_ <;> (intro hc; try simp only [kBool] at hc)) | exact absurd trivial ‹¬True› | ((first | apply KO.val (g := true) rfl rfl rfl | apply KO.val rfl rfl rfl | apply KO.valIn rfl rfl rfl); (first | (apply qt_loadN_cel rfl rfl ?hi rfl rfl rfl ?hl ?hc; (case hc => exact fun _ => (hty.mono (fun _ hq => by cases hq))); (case hl => rfl)) | (apply qt_load1_cel rfl rfl ?hi rfl rfl ?hc; (case hc => first | exact fun _ => (hty.mono (fun _ hq => by cases hq))))); (case hi => (first | exact fun _ => rfl | (intro h; first | rfl | exact h | (simp [h]; done) | (simp_all; done))))) | fail)
  rename_i b5 _
  refine KO.callF (asG bc ba (.pointer none)) [(b5, cl [hdl 102, .pointer (some ⟨ba, 0, none⟩), .int .u64 150] 130)] (by dsimp only [asG]; exact (by classical exact List.perm_iff_count.2 (fun _ => by first | (simp only [List.count_append, List.count_cons, List.count_nil, List.append_assoc, List.cons_append, List.nil_append]; done) | (simp only [List.count_append, List.count_cons, List.count_nil, List.append_assoc, List.cons_append, List.nil_append]; omega)))) rfl rfl rfl rfl rfl rfl rfl (asF_p E.β bc ba e1) ?_
  rintro _ _ ⟨rfl, rfl⟩
  repeat' (first | refine KW.seq ?_ | refine KW.region ?_ | refine KO.nil ?_ | refine At.then_normal ?_ | refine KW.skip ?_ | refine KW.ret ?_ | refine At.then_ret ?_ | refine KW.block ?_ | refine KW.exit ?_ | refine At.block_normal ?_ | refine At.block_ret ?_ | refine At.loop_ret ?_ | refine At.then_exit ?_ | refine At.block_here rfl ?_ | refine At.block_there rfl ?_ | refine At.loop_exit ?_ | refine At.cut_ret ?_ | refine At.cutA_ret ?_ | refine At.cutA_exit ?_ | refine At.cut_exit ?_ | (refine At.cut_same ?_; repeat' (first | exact FLe.nil _ | refine FLe.cons rfl rfl ?_)) | refine KW.cond_t rfl (by first | with_reducible rfl | decide) ?_ | refine KW.cond_f rfl (by first | with_reducible rfl | decide) ?_ | refine KW.scope ?_ | refine KW.label ?_ | refine At.scope_normal ?_ | refine At.scope_ret ?_ | refine At.scope_exit ?_ | refine KO.skip' rfl (by first | with_reducible rfl | decide) rfl rfl ?_ | refine KO.skip0' rfl (by first | with_reducible rfl | decide) rfl ?_ | refine KO.skipIn rfl (by first | with_reducible rfl | decide) rfl rfl ?_ | ((first | apply KO.val rfl rfl rfl ?kq ?_ | apply KO.valIn rfl rfl rfl ?kq ?_); (case kq => ((first | apply qt_ev rfl ?hi | ((first | apply qt_load1 rfl rfl ?hi rfl rfl ?hm ?hc | apply qt_loadN rfl rfl ?hi rfl rfl rfl ?hm ?hc); (case hm => repeat (first | exact List.Mem.head _ | apply List.Mem.tail _ | apply List.mem_append_right _)); (case hc => rfl)) | apply qt_pick_t rfl rfl (by first | with_reducible rfl | decide) rfl ?hi | apply qt_pick_f rfl rfl (by first | with_reducible rfl | decide) rfl ?hi | ((first | apply qt_pick_and rfl rfl rfl ?hi ?pj | apply qt_pick_or rfl rfl rfl ?hi ?pj); (case pj => (intro h h2; first | with_reducible exact h2 | with_reducible exact andi h h2 | (rw [h2]; rfl) | (rw [h, h2]; rfl) | with_reducible rfl | (simp [h2]; done) | (simp_all; done)))) | apply qt_cap rfl rfl ?hi rfl | apply qt_eqs rfl rfl rfl ?hi rfl (Or.inl rfl) | apply qt_nes rfl rfl rfl ?hi rfl (Or.inl rfl) | apply qt_eqs rfl rfl rfl ?hi rfl (Or.inr ⟨rfl, rfl, rfl⟩) | apply qt_nes rfl rfl rfl ?hi rfl (Or.inr ⟨rfl, rfl, rfl⟩)); (case hi => (intro h; (repeat' (first | with_reducible exact alln | with_reducible refine allc ?_ ?_ | with_reducible refine andi ?_ ?_)); all_goals (first | with_reducible rfl | with_reducible exact h | with_reducible exact andl h | with_reducible exact andr h | with_reducible exact andl (andl h) | (simp only [h, Bool.and_self]; done) | (simp [h]; done) | (simp_all; done))))))) | (refine KO.alloc rfl rfl rfl rfl rfl rfl ?_; intro _ _) | (apply KO.store (i := _) rfl rfl rfl rfl rfl rfl rfl rfl ?hl ?sg ?hw ?ho ?hs; (case sg => first | exact (rfl : getI 0 _ = _) | exact (rfl : getI 1 _ = _) | exact (rfl : getI 2 _ = _) | exact (rfl : getI 3 _ = _) | exact (rfl : getI 4 _ = _) | exact (rfl : getI 5 _ = _) | exact (rfl : getI 6 _ = _) | exact (rfl : getI 7 _ = _)); (case hl => rfl); (case hw => rfl); (case ho => rfl); (case hs => rfl)) | (refine KW.cond rfl ?_ ?_ <;> (intro hc; try simp only [kBool] at hc)) | exact absurd trivial ‹¬True› | ((first | apply KO.val (g := true) rfl rfl rfl | apply KO.val rfl rfl rfl | apply KO.valIn rfl rfl rfl); (first | (apply qt_loadN_cel rfl rfl ?hi rfl rfl rfl ?hl ?hc; (case hc => exact fun _ => (hty.mono (fun _ hq => by cases hq))); (case hl => rfl)) | (apply qt_load1_cel rfl rfl ?hi rfl rfl ?hc; (case hc => first | exact fun _ => (hty.mono (fun _ hq => by cases hq))))); (case hi => (first | exact fun _ => rfl | (intro h; first | rfl | exact h | (simp [h]; done) | (simp_all; done))))) | fail)
  ((first | apply At.done_ret | apply At.done_normal); (focus (repeat' (first | exact ResVs.nil' | apply ResVs.cons' | exact ResV.tmp' rfl | (apply ResV.cell1 rfl ?hm rfl rfl ?hc; (case hm => repeat (first | exact List.Mem.head _ | apply List.Mem.tail _ | apply List.mem_append_right _)); (case hc => rfl)) | (apply ResV.cellN rfl ?hm rfl rfl rfl ?hc; (case hm => repeat (first | exact List.Mem.head _ | apply List.Mem.tail _ | apply List.mem_append_right _)); (case hc => rfl))))); dsimp only [resVal])
  exact ⟨_, .cons_cons _ (List.nil_sublist _), rfl, rfl⟩
end Go.Proofs.YtnaclkdjchnbpaaDoor
end
