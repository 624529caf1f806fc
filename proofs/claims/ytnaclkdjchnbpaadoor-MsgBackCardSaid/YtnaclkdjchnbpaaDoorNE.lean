/- That the program's request of a payload is the document's. -/
import Derived.Test.YtnaclkdjchnbpaaDoorNB
namespace Go.Proofs.YtnaclkdjchnbpaaDoor
open Go Go.K

def dec (l : List Nat) : Flt × Rq := match decF l with
  | none => (none, (decS l).2.2)
  | some y => (some y, Rq.zero)
def finD (x : Flt × List Nat × Rq) : Flt × Rq := match x with
  | (some y, _, _) => (some y, Rq.zero)
  | (none, l, r) => if 0 < l.length then (some (sEnd, 12), Rq.zero) else (none, r)
theorem setR_op {r : Rq} {w : RowT} {x : List Nat} (h : w.name ≠ sOp) : (setR r w x).op = r.op := by
  unfold setR
  rw [if_neg h]
  (repeat' split) <;> rfl
theorem refG_refD : ∀ (ws : List RowT) (k : Nat) (l : List Nat) (r : Rq), 0 < k → (∀ w ∈ ws, w.name ≠ sOp) → refG ws k l r = finD (refD setR (hasO r.op) ws l r)
  | [], _, _, _, _, _ => rfl
  | w :: ws, k, l, r, hk, hn => by
    have h1 := hn w (List.mem_cons_self)
    have h2 := fun v hv => hn v (List.mem_cons_of_mem _ hv)
    unfold refG refD hasO
    by_cases hb : hasR w.ops r.op = true
    · rw [if_neg (by rw [hb]; simp), if_pos hb]
      by_cases hl : l.length < w.size * w.many
      · rw [if_pos hl, if_pos hl]; rfl
      · rw [if_neg hl, if_neg hl, if_neg (fun h => h1 h.1), refG_refD ws (k + 1) _ _ (by omega) h2, setR_op h1]
        rfl
    · rw [if_pos ⟨hk, by simpa using hb⟩, if_neg hb, refG_refD ws (k + 1) l r (by omega) h2]
      rfl
theorem tk1_none {f : ByteArray × Nat} {l l' : List Nat} {n : Nat} (h : tk1 f l = (none, l', n)) : f.2 ≤ l.length ∧ l' = l.drop f.2 ∧ n = num (l.take f.2) := by
  unfold tk1 at h
  split at h
  · simp only [Prod.mk.injEq, true_and] at h
    exact ⟨by assumption, h.1.symm, h.2.symm⟩
  · simp at h
theorem tk1_some {f : ByteArray × Nat} {l l' : List Nat} {n : Nat} {y : ByteArray × Int} (h : tk1 f l = (some y, l', n)) : l.length < f.2 ∧ y = (f.1, 17) := by
  unfold tk1 at h
  split at h
  · simp at h
  · simp only [Prod.mk.injEq, Option.some.injEq] at h
    exact ⟨by omega, h.1.symm⟩
def rowTok : RowT := ⟨sToken, 8, 1, [49, 50, 51, 52, 53, 54]⟩
def rowsB (o : Int) : List RowT := if o = 2 then [⟨sUnit, 1, 1, [50]⟩, ⟨sDir, 1, 1, [50]⟩] else if o = 4 ∨ o = 5 then [⟨sFrom, 2, 2, [52, 53]⟩, ⟨sTo, 2, 2, [52, 53]⟩] else []
theorem stepR2_t (o : Int) (l : List Nat) (m : Md) (x : Flt) (q : Rq) (h : stepR2 (.take l) { Rq.zero with op := o } = (m, x, q)) :
    (takF (rows (rowTok :: rowsB o)) l).1 = x ∧ (x = none → m = .take (takF (rows (rowTok :: rowsB o)) l).2.1 ∧ q = setAll setR (rowTok :: rowsB o) (takF (rows (rowTok :: rowsB o)) l).2.2 { Rq.zero with op := o }) := by
  have er : rows (rowTok :: rowsB o) = (sToken, 8) :: rows (rowsB o) := rfl
  rw [er]
  unfold takF
  unfold stepR2 at h
  have hW : stepW (.take l) none sToken 0 8 = (.take (tk1 (sToken, 8) l).2.1, (tk1 (sToken, 8) l).1, (tk1 (sToken, 8) l).2.2) := stepW_t l sToken 0 8 (by omega) (by omega)
  have hz : ({ Rq.zero with op := o } : Rq).tok = 0 := rfl
  rw [hz] at h
  rw [hW] at h
  generalize tk1 (sToken, 8) l = t at h ⊢
  rcases t with ⟨x1, l1, n1⟩
  dsimp only at h ⊢
  rcases x1 with _ | y1
  · try dsimp only
    unfold rowsB
    by_cases h2 : o = 2
    · subst h2
      rw [if_pos rfl] at h ⊢
      have e2 : rows [⟨sUnit, 1, 1, [50]⟩, ⟨sDir, 1, 1, [50]⟩] = [(sUnit, 1), (sDir, 1)] := rfl
      rw [e2]
      have hU : stepN (.take l1) none sUnit 0 1 = _ := stepN_t l1 sUnit 0 1 (by omega) (by omega)
      have h' := h
      simp only [Rq.zero, hU] at h'
      unfold takF
      rcases htl1 : tk1 (sUnit, 1) l1 with ⟨x2, l2, n2⟩
      try simp only [htl1] at h'
      try simp only [htl1]
      try dsimp only at h' ⊢
      rcases x2 with _ | y2
      · have hD : stepN (.take l2) none sDir 0 1 = _ := stepN_t l2 sDir 0 1 (by omega) (by omega)
        rw [hD] at h'
        unfold takF
        rcases htl2 : tk1 (sDir, 1) l2 with ⟨x3, l3, n3⟩
        try simp only [htl2] at h'
        try simp only [htl2]
        try dsimp only at h' ⊢
        rcases x3 with _ | y3
        · obtain ⟨rfl, rfl, rfl⟩ := h'
          exact ⟨rfl, fun _ => ⟨rfl, rfl⟩⟩
        · obtain ⟨rfl, rfl, rfl⟩ := h'
          exact ⟨rfl, fun e => by cases e⟩
      · obtain ⟨rfl, rfl, rfl⟩ := h'
        exact ⟨rfl, fun e => by cases e⟩
    · rw [if_neg h2] at h ⊢
      by_cases h4 : o = 4 ∨ o = 5
      · rw [if_pos h4] at h ⊢
        have e2 : rows [⟨sFrom, 2, 2, [52, 53]⟩, ⟨sTo, 2, 2, [52, 53]⟩] = [(sFrom, 2), (sFrom, 2), (sTo, 2), (sTo, 2)] := rfl
        rw [e2]
        have h' := h
        simp only [Rq.zero] at h'
        rw [stepC_t l1 sFrom 0 0] at h'
        unfold takF
        rcases htl1 : tk1 (sFrom, 2) l1 with ⟨x2, l2, n2⟩
        try simp only [htl1] at h'
        try simp only [htl1]
        try dsimp only at h' ⊢
        rcases x2 with _ | y2
        · try dsimp only at h'
          unfold takF
          rcases htl2 : tk1 (sFrom, 2) l2 with ⟨x3, l3, n3⟩
          try simp only [htl2] at h'
          try simp only [htl2]
          try dsimp only at h' ⊢
          rcases x3 with _ | y3
          · try dsimp only at h'
            rw [stepC_t l3 sTo 0 0] at h'
            unfold takF
            rcases htl3 : tk1 (sTo, 2) l3 with ⟨x4, l4, n4⟩
            try simp only [htl3] at h'
            try simp only [htl3]
            try dsimp only at h' ⊢
            rcases x4 with _ | y4
            · try dsimp only at h'
              unfold takF
              rcases htl4 : tk1 (sTo, 2) l4 with ⟨x5, l5, n5⟩
              try simp only [htl4] at h'
              try simp only [htl4]
              try dsimp only at h' ⊢
              rcases x5 with _ | y5
              · obtain ⟨rfl, rfl, rfl⟩ := h'
                exact ⟨rfl, fun _ => ⟨rfl, rfl⟩⟩
              · obtain ⟨rfl, rfl, rfl⟩ := h'
                exact ⟨rfl, fun e => by cases e⟩
            · obtain ⟨rfl, rfl, rfl⟩ := h'
              exact ⟨rfl, fun e => by cases e⟩
          · obtain ⟨rfl, rfl, rfl⟩ := h'
            exact ⟨rfl, fun e => by cases e⟩
        · obtain ⟨rfl, rfl, rfl⟩ := h'
          exact ⟨rfl, fun e => by cases e⟩
      · rw [if_neg h4] at h ⊢
        obtain ⟨rfl, rfl, rfl⟩ := h
        exact ⟨rfl, fun _ => ⟨rfl, rfl⟩⟩
  · by_cases h2 : o = 2
    · rw [if_pos h2] at h
      obtain ⟨rfl, rfl, rfl⟩ := h
      exact ⟨rfl, fun e => by cases e⟩
    · rw [if_neg h2] at h
      by_cases h4 : o = 4 ∨ o = 5
      · rw [if_pos h4] at h
        obtain ⟨rfl, rfl, rfl⟩ := h
        exact ⟨rfl, fun e => by cases e⟩
      · rw [if_neg h4] at h
        obtain ⟨rfl, rfl, rfl⟩ := h
        exact ⟨rfl, fun e => by cases e⟩
/-- Of what program and document tell of one payload, behind its op. -/
theorem body_same {o : Int} (ho : o = 0 ∨ o = 1 ∨ o = 2 ∨ o = 3 ∨ o = 4 ∨ o = 5 ∨ o = 6) (l : List Nat) (m : Md) (x : Flt) (q : Rq)
    (h : (if opSize o = 0 then (Md.take l, none, { Rq.zero with op := o }) else stepR2 (.take l) { Rq.zero with op := o }) = (m, x, q)) :
    (match (if 0 < m.len then note x sEnd 12 else x) with | none => (none, q) | some y => (some y, Rq.zero)) = finD (refD setR (hasO o) asked.tail l { Rq.zero with op := o }) := by
  rw [refD_filter]
  have hrow : asked.tail.filter (hasO o) = if opSize o = 0 then [] else rowTok :: rowsB o := by
    rcases ho with h | h | h | h | h | h | h <;> subst h <;> rfl
  rw [hrow]
  have key : ∀ (m : Md) (q : Rq) (l' : List Nat), m = .take l' → (match (if 0 < m.len then note none sEnd 12 else none) with | none => ((none : Flt), q) | some y => (some y, Rq.zero)) = finD (none, l', q) := by
    intro m q l' e
    subst e
    show (match (if 0 < l'.length then note none sEnd 12 else none) with | none => _ | some y => _) = if 0 < l'.length then _ else _
    by_cases hl : 0 < l'.length
    · rw [if_pos hl, if_pos hl]; rfl
    · rw [if_neg hl, if_neg hl]
  by_cases h0 : opSize o = 0
  · rw [if_pos h0] at h ⊢
    obtain ⟨rfl, rfl, rfl⟩ := h
    exact key _ _ l rfl
  · rw [if_neg h0] at h ⊢
    obtain ⟨e3, e4⟩ := stepR2_t o l m x q h
    rcases refD_tak setR (rowTok :: rowsB o) l { Rq.zero with op := o } with ⟨y, l', r', l'', ns, e1, e2⟩ | ⟨l', ns, e1, e2⟩
    · rw [e1]
      rw [e2] at e3
      dsimp only at e3
      subst e3
      have : (if 0 < m.len then note (some y) sEnd 12 else some y) = some y := by split <;> rfl
      rw [this]
      rfl
    · rw [e2]
      rw [e1] at e3 e4
      dsimp only at e3 e4
      subst e3
      obtain ⟨h1, h2⟩ := e4 rfl
      subst h2
      exact key m _ l' h1
theorem dec_same (l : List Nat) (hB : Byt l) : dec l = rDec l := by
  have hN : stepN (.take l) none sOp 0 1 = _ := stepN_t l sOp 0 1 (by omega) (by omega)
  rcases h0 : tk1 (sOp, 1) l with ⟨x0, l1, n⟩
  rw [h0] at hN
  dsimp only at hN
  rcases x0 with _ | y
  · obtain ⟨h1, h2, h3⟩ := tk1_none h0
    have hlt : n < 256 := by
      rw [h3]
      have := num_lt 1 (l.take 1) (by rw [List.length_take]; exact Nat.min_eq_left h1) (hB.take 1)
      simpa using this
    have hi : IntKind.i64.wrap (n : Int) = (n : Int) := by rw [IntKind.wrap_i64]; omega
    have hrd : rdN 1 1 l = [n] := by rw [h3]; rfl
    have eS : decS l = if (n : Int) < 0 ∨ 7 ≤ (n : Int) then (.take l1, some (sOp, 18), { Rq.zero with op := (n : Int) }) else (if opSize (n : Int) = 0 then (.take l1, none, { Rq.zero with op := (n : Int) }) else stepR2 (.take l1) { Rq.zero with op := (n : Int) }) := by
      unfold decS stepR
      have : stepN (.take l) none sOp Rq.zero.op 1 = (.take l1, none, (n : Int)) := by rw [← hi]; exact hN
      rw [this]
    have eR : rDec l = if 6 < (n : Int) then (some (sOp, 18), Rq.zero) else refG asked.tail 1 l1 { Rq.zero with op := (n : Int) } := by
      unfold rDec
      show refG (⟨sOp, 1, 1, [48, 49, 50, 51, 52, 53, 54]⟩ :: asked.tail) 0 l Rq.zero = _
      rw [refG, if_neg (by omega), if_neg (by have : 1 ≤ l.length := h1; show ¬ l.length < 1 * 1; omega)]
      show (if sOp = sOp ∧ 6 < (setR Rq.zero ⟨sOp, 1, 1, _⟩ (rdN 1 1 l)).op then _ else refG asked.tail (0 + 1) (l.drop (1 * 1)) (setR Rq.zero ⟨sOp, 1, 1, _⟩ (rdN 1 1 l))) = _
      have e5 : setR Rq.zero ⟨sOp, 1, 1, [48, 49, 50, 51, 52, 53, 54]⟩ (rdN 1 1 l) = { Rq.zero with op := (n : Int) } := by
        unfold setR
        rw [if_pos rfl, hrd]
        show ({ Rq.zero with op := IntKind.i64.wrap (n : Int) } : Rq) = _
        rw [hi]
      rw [e5, h2]
      by_cases h6 : 6 < (n : Int)
      · rw [if_pos h6, if_pos ⟨rfl, h6⟩]
      · rw [if_neg h6, if_neg (fun h => h6 h.2)]
    rw [eR]
    unfold dec decF
    by_cases h6 : 6 < (n : Int)
    · have eS6 : decS l = (.take l1, some (sOp, 18), { Rq.zero with op := (n : Int) }) := by rw [eS, if_pos (by omega)]
      rw [eS6, if_pos h6]
      dsimp only
      have : (if 0 < (Md.take l1).len then note (some (sOp, 18)) sEnd 12 else some (sOp, 18)) = some (sOp, 18) := by split <;> rfl
      rw [this]
    · have eS6 : decS l = (if opSize (n : Int) = 0 then (.take l1, none, { Rq.zero with op := (n : Int) }) else stepR2 (.take l1) { Rq.zero with op := (n : Int) }) := by rw [eS, if_neg (by omega)]
      rw [eS6, if_neg h6, refG_refD _ 1 l1 _ (by omega) (by decide)]
      exact body_same (o := (n : Int)) (by omega) l1 _ _ _ rfl
  · obtain ⟨h1, rfl⟩ := tk1_some h0
    have eS : decS l = (.take l1, some (sOp, 17), { Rq.zero with op := IntKind.i64.wrap (n : Int) }) := by
      unfold decS stepR
      have : stepN (.take l) none sOp Rq.zero.op 1 = (.take l1, some (sOp, 17), IntKind.i64.wrap (n : Int)) := hN
      rw [this]
    have eR : rDec l = (some (sOp, 17), Rq.zero) := by
      unfold rDec
      show refG (⟨sOp, 1, 1, [48, 49, 50, 51, 52, 53, 54]⟩ :: asked.tail) 0 l Rq.zero = _
      rw [refG, if_neg (by omega), if_pos (by have : l.length < 1 := h1; show l.length < 1 * 1; omega)]
    rw [eR]
    unfold dec decF
    rw [eS]
    dsimp only
    have : (if 0 < (Md.take l1).len then note (some (sOp, 17)) sEnd 12 else some (sOp, 17)) = some (sOp, 17) := by split <;> rfl
    rw [this]
end Go.Proofs.YtnaclkdjchnbpaaDoor
