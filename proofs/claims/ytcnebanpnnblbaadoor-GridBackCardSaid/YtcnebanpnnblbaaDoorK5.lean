/- The program logic, fifth part: statements whose order is open: whatever order is drawn, the values are those of the text's order. -/
import Derived.Test.YtcnebanpnnblbaaDoorK4
namespace Go.K
open Go Go.RowKit

def tmpsOf : List Operand → List Nat
  | [] => []
  | .tmp t :: r => t :: tmpsOf r
  | _ :: r => tmpsOf r
def namesOf (ops : List Oper) (o : Oper) : List Nat :=
  match o.guard with
  | none => tmpsOf o.op.operands.toList
  | some (j, _) => match nth ops j with
    | some oj => match oj.dst with
      | some d => d :: tmpsOf o.op.operands.toList
      | none => tmpsOf o.op.operands.toList
    | none => tmpsOf o.op.operands.toList
def elemB : List Nat → Nat → Bool
  | [], _ => false
  | x :: r, s => bif Nat.beq x s then true else elemB r s
theorem elemB_ok : ∀ {l : List Nat} {s : Nat}, elemB l s = true → s ∈ l
  | [], s, h => by cases h
  | x :: r, s, h => by
    unfold elemB at h
    cases hb : Nat.beq x s with
    | true => rw [Nat.eq_of_beq_eq_true hb]; exact List.mem_cons_self
    | false => rw [hb] at h; exact List.mem_cons_of_mem _ (elemB_ok h)
/-- What is known of some slots alone. -/
def LR (ns : List Nat) (L : Look) : Look := fun s => bif elemB ns s then L s else none
theorem LR_some {ns : List Nat} {L : Look} {s : Nat} {p : Bool × Value} (h : LR ns L s = some p) : s ∈ ns ∧ L s = some p := by
  unfold LR at h
  cases he : elemB ns s with
  | true => rw [he] at h; exact ⟨elemB_ok he, h⟩
  | false => rw [he] at h; cases h

def depsOf (o : Oper) : List Nat := (o.after.toList.filter (Region.binds .any)).map (·.on)

/-- k comes ahead of i, whatever order is drawn. -/
def BefN (ops : List Oper) : Nat → Nat → Nat → Prop
  | 0, k, i => ∃ o, ops[i]? = some o ∧ k ∈ depsOf o
  | n + 1, k, i => ∃ o j, ops[i]? = some o ∧ j ∈ depsOf o ∧ BefN ops n k j
def Bef (ops : List Oper) (k i : Nat) : Prop := ∃ n, BefN ops n k i
theorem Bef.base {ops : List Oper} {k i : Nat} {o : Oper} (h : ops[i]? = some o) (hk : k ∈ depsOf o) : Bef ops k i := ⟨0, o, h, hk⟩
theorem Bef.step {ops : List Oper} {k j i : Nat} {o : Oper} (h : ops[i]? = some o) (hj : j ∈ depsOf o) (hk : Bef ops k j) : Bef ops k i := by
  obtain ⟨n, hn⟩ := hk
  exact ⟨n + 1, o, j, h, hj, hn⟩
theorem Bef.inv {ops : List Oper} {k i : Nat} (h : Bef ops k i) : ∃ o, ops[i]? = some o ∧ (k ∈ depsOf o ∨ ∃ j, j ∈ depsOf o ∧ Bef ops k j) := by
  obtain ⟨n, hn⟩ := h
  cases n with
  | zero => obtain ⟨o, h1, h2⟩ := hn; exact ⟨o, h1, .inl h2⟩
  | succ n => obtain ⟨o, j, h1, h2, h3⟩ := hn; exact ⟨o, h1, .inr ⟨j, h2, n, h3⟩⟩

def bmask (acc : List Nat) (o : Oper) : Nat := (depsOf o).foldl (fun s j => s ||| 2 ^ j ||| (nth acc j).getD 0) 0
def masks : List Oper → List Nat → List Nat
  | [], acc => acc
  | o :: r, acc => masks r (acc ++ [bmask acc o])

theorem bmask_fold (acc : List Nat) (k : Nat) : ∀ (l : List Nat) (s : Nat), (l.foldl (fun s j => s ||| 2 ^ j ||| (nth acc j).getD 0) s).testBit k = true → s.testBit k = true ∨ ∃ j ∈ l, j = k ∨ ((nth acc j).getD 0).testBit k = true
  | [], s, h => .inl h
  | j :: l, s, h => by
    rw [List.foldl_cons] at h
    rcases bmask_fold acc k l _ h with h1 | ⟨j', hj', h1⟩
    · rw [Nat.testBit_or, Nat.testBit_or, Bool.or_eq_true, Bool.or_eq_true] at h1
      rcases h1 with (h1 | h1) | h1
      · exact .inl h1
      · refine .inr ⟨j, List.mem_cons_self, .inl ?_⟩
        rw [Nat.testBit_two_pow] at h1
        simpa using h1
      · exact .inr ⟨j, List.mem_cons_self, .inr h1⟩
    · exact .inr ⟨j', List.mem_cons_of_mem _ hj', h1⟩

theorem masks_ok {ops : List Oper} : ∀ (r : List Oper) (acc : List Nat) (n : Nat), n = acc.length → (∀ j, r[j]? = ops[n + j]?) → (∀ i m, acc[i]? = some m → ∀ k, m.testBit k = true → Bef ops k i) →
    ∀ i m, (masks r acc)[i]? = some m → ∀ k, m.testBit k = true → Bef ops k i
  | [], acc, n, _, _, h => h
  | o :: r, acc, n, hn, hr, h => by
    refine masks_ok r (acc ++ [bmask acc o]) (n + 1) (by simp [hn]) (fun j => by have := hr (j + 1); simpa [Nat.add_assoc, Nat.add_comm 1 j] using this) ?_
    intro i m hi k hk
    by_cases hlt : i < acc.length
    · rw [List.getElem?_append_left hlt] at hi; exact h i m hi k hk
    · have hi' : i = acc.length := by
        have := (List.getElem?_eq_some_iff.1 hi).1
        simp at this
        omega
      subst hi'
      simp only [List.getElem?_concat_length, Option.some.injEq] at hi
      subst hi
      have ho : ops[acc.length]? = some o := by have := hr 0; rw [← hn]; simpa using this.symm
      unfold bmask at hk
      rcases bmask_fold acc k _ _ hk with h1 | ⟨j, hj, h1⟩
      · simp at h1
      · rcases h1 with rfl | h1
        · exact .base ho hj
        · refine .step ho hj ?_
          rw [nth_eq] at h1
          cases hm : acc[j]? with
          | none => rw [hm] at h1; simp at h1
          | some m => rw [hm] at h1; exact h j m hm k h1

def bit (B : List Nat) (i k : Nat) : Bool := (nth B i).elim false (·.testBit k)
/-- Each op of the first m: its deps stand ahead of it; who writes what it names is in order with it. Each later op: all ahead of it come first. -/
def chkPair (ops : List Oper) (B : List Nat) (i : Nat) (o : Oper) (k : Nat) : Bool :=
  match nth ops k with
  | none => true
  | some ok => match ok.dst with
    | none => true
    | some s => Nat.beq i k || !(elemB (namesOf ops o) s || (match o.dst with | some d => Nat.beq d s | none => false)) || (if k < i then bit B i k else bit B k i)
def chkD (ops : List Oper) (m : Nat) : Bool :=
  let B := masks ops []
  (List.range ops.length).all (fun i => match nth ops i with
    | none => true
    | some o => (depsOf o).all (fun j => decide (j < i)) &&
      (if i < m then (List.range m).all (chkPair ops B i o) else (List.range i).all (fun k => bit B i k)))

theorem bit_ok {ops : List Oper} {i k : Nat} (h : bit (masks ops []) i k = true) : Bef ops k i := by
  unfold bit at h
  rw [nth_eq] at h
  cases hm : (masks ops [])[i]? with
  | none => rw [hm] at h; cases h
  | some m => rw [hm] at h; exact masks_ok (ops := ops) ops [] 0 rfl (by simp) (fun i m hi => by simp at hi) i m hm k h

structure Chk (ops : List Oper) (m : Nat) : Prop where
  low : ∀ i o, ops[i]? = some o → ∀ j ∈ depsOf o, j < i
  pair : ∀ i o k ok s, i < m → k < m → ops[i]? = some o → ops[k]? = some ok → ok.dst = some s → i ≠ k → (s ∈ namesOf ops o ∨ o.dst = some s) → if k < i then Bef ops k i else Bef ops i k
  tail : ∀ i o k, m ≤ i → ops[i]? = some o → k < i → Bef ops k i

theorem elemB_mem : ∀ {l : List Nat} {s : Nat}, s ∈ l → elemB l s = true
  | x :: r, s, h => by
    unfold elemB
    rcases List.mem_cons.1 h with rfl | h
    · simp
    · cases Nat.beq x s with
      | true => rfl
      | false => exact elemB_mem h

theorem chkD_ok {ops : List Oper} {m : Nat} (h : chkD ops m = true) : Chk ops m := by
  unfold chkD at h
  simp only [List.all_eq_true, List.mem_range] at h
  have key : ∀ i o, ops[i]? = some o → (∀ j ∈ depsOf o, j < i) ∧ (if i < m then (List.range m).all (chkPair ops (masks ops []) i o) else (List.range i).all (fun k => bit (masks ops []) i k)) = true := by
    intro i o ho
    have h1 := h i (List.getElem?_eq_some_iff.1 ho).1
    rw [nth_eq, ho] at h1
    simp only [Bool.and_eq_true, List.all_eq_true, decide_eq_true_eq] at h1
    refine ⟨h1.1, ?_⟩
    split <;> rename_i hi <;> simp only [hi, if_true, if_false] at h1
    · simpa using h1.2
    · simpa using h1.2
  refine ⟨fun i o ho => (key i o ho).1, fun i o k ok s hi hk ho hok hs hne hn => ?_, fun i o k hi ho hk => ?_⟩
  · have h1 := (key i o ho).2
    rw [if_pos hi] at h1
    have h2 := List.all_eq_true.1 h1 k (List.mem_range.2 hk)
    unfold chkPair at h2
    rw [nth_eq, hok] at h2
    simp only [hs] at h2
    have e1 : Nat.beq i k = false := by
      cases hb : Nat.beq i k with
      | false => rfl
      | true => exact absurd (Nat.eq_of_beq_eq_true hb) hne
    have e2 : (elemB (namesOf ops o) s || (match o.dst with | some d => Nat.beq d s | none => false)) = true := by
      rcases hn with hn | hn
      · rw [elemB_mem hn]; rfl
      · rw [hn]; simp
    rw [e1, e2] at h2
    simp only [Bool.not_true, Bool.false_or] at h2
    split at h2
    · rename_i hlt; rw [if_pos hlt]; exact bit_ok h2
    · rename_i hlt; rw [if_neg hlt]; exact bit_ok h2
  · have h1 := (key i o ho).2
    rw [if_neg (by omega)] at h1
    exact bit_ok (List.all_eq_true.1 h1 k (List.mem_range.2 hk))

/-! ### The judgement: the first m operations are quiet, in the text's order; behind them as ever -/
def pushFr (d : Option Nat) (g : Bool) (v : Value) (fr : Fr) : Fr := match d with
  | some d => (d, g, v) :: fr
  | none => fr
def okDst (N : Nat) : Option Nat → Bool
  | some d => Nat.blt d N
  | none => true
def KD (C : Cx) (ops : List Oper) (Q : KQ) (σ : Heap) : Nat → List Oper → Fr → Prop
  | 0, l, fr => KO C ops Q l fr σ
  | _ + 1, [], _ => False
  | m + 1, o :: rest, fr => ∃ g v, (guardOf ops (LR (namesOf ops o) (look fr)) o = some g ∨ guardIn ops (LR (namesOf ops o) (look fr)) o = some g) ∧ okDst C.N o.dst = true ∧
      Qt C (LR (namesOf ops o) (look fr)) σ g o v ∧ KD C ops Q σ m rest (pushFr o.dst g v fr)

section
variable {C : Cx} {ops : List Oper} {Q : KQ} {σ : Heap} {m : Nat} {o : Oper} {rest : List Oper} {fr : Fr} {d : Nat} {g : Bool} {v : Value}

theorem KD.zero {l : List Oper} (h : KO C ops Q l fr σ) : KD C ops Q σ 0 l fr := h
theorem KD.val (hg : guardOf ops (LR (namesOf ops o) (look fr)) o = some g) (hd : o.dst = some d) (hn : Nat.blt d C.N = true) (hq : Qt C (LR (namesOf ops o) (look fr)) σ g o v) (h : KD C ops Q σ m rest ((d, g, v) :: fr)) : KD C ops Q σ (m + 1) (o :: rest) fr :=
  ⟨g, v, .inl hg, by rw [hd]; exact hn, hq, by rw [hd]; exact h⟩
theorem KD.valIn (hg : guardIn ops (LR (namesOf ops o) (look fr)) o = some g) (hd : o.dst = some d) (hn : Nat.blt d C.N = true) (hq : Qt C (LR (namesOf ops o) (look fr)) σ g o v) (h : KD C ops Q σ m rest ((d, g, v) :: fr)) : KD C ops Q σ (m + 1) (o :: rest) fr :=
  ⟨g, v, .inr hg, by rw [hd]; exact hn, hq, by rw [hd]; exact h⟩
theorem KD.skip (hg : guardOf ops (LR (namesOf ops o) (look fr)) o = some false) (hd : o.dst = some d) (hn : Nat.blt d C.N = true) (h : KD C ops Q σ m rest ((d, false, undef) :: fr)) : KD C ops Q σ (m + 1) (o :: rest) fr :=
  ⟨false, undef, .inl hg, (by rw [hd]; exact hn), (fun _ _ _ _ e => by cases e), (by rw [hd]; exact h)⟩

/-- The values, the guards, the frames of the text's order. -/
structure Run (C : Cx) (ops : List Oper) (σ : Heap) (m : Nat) (gs : Nat → Bool) (vs : Nat → Value) (frs : Nat → Fr) : Prop where
  at_ : ∀ k o, k < m → ops[k]? = some o → (guardOf ops (LR (namesOf ops o) (look (frs k))) o = some (gs k) ∨ guardIn ops (LR (namesOf ops o) (look (frs k))) o = some (gs k)) ∧ okDst C.N o.dst = true ∧
    Qt C (LR (namesOf ops o) (look (frs k))) σ (gs k) o (vs k) ∧ frs (k + 1) = pushFr o.dst (gs k) (vs k) (frs k)

theorem KD.run : ∀ (m : Nat) (l : List Oper) (n : Nat) (fr : Fr), (∀ j, l[j]? = ops[n + j]?) → KD C ops Q σ m l fr →
    ∃ (gs : Nat → Bool) (vs : Nat → Value) (frs : Nat → Fr), frs n = fr ∧ m ≤ l.length ∧ (∀ k o, n ≤ k → k < n + m → ops[k]? = some o → (guardOf ops (LR (namesOf ops o) (look (frs k))) o = some (gs k) ∨ guardIn ops (LR (namesOf ops o) (look (frs k))) o = some (gs k)) ∧ okDst C.N o.dst = true ∧
      Qt C (LR (namesOf ops o) (look (frs k))) σ (gs k) o (vs k) ∧ frs (k + 1) = pushFr o.dst (gs k) (vs k) (frs k)) ∧ KO C ops Q (l.drop m) (frs (n + m)) σ
  | 0, l, n, fr, _, h => ⟨fun _ => true, fun _ => undef, fun _ => fr, rfl, Nat.zero_le _, fun k o h1 h2 => by omega, by simpa [KD] using h⟩
  | m + 1, [], n, fr, _, h => h.elim
  | m + 1, o :: rest, n, fr, hl, ⟨g, v, h1, h2, h3, h4⟩ => by
    have h0 : ops[n]? = some o := by have := hl 0; simpa using this.symm
    obtain ⟨gs, vs, frs, e1, e2, e3, e4⟩ := KD.run m rest (n + 1) _ (fun j => by have := hl (j + 1); simpa [Nat.add_assoc, Nat.add_comm 1 j] using this) h4
    refine ⟨fun k => if k = n then g else gs k, fun k => if k = n then v else vs k, fun k => if k = n then fr else frs k, by simp, by simp; omega, fun k o' k1 k2 ho' => ?_, ?_⟩
    · by_cases hk : k = n
      · subst hk
        have : o' = o := Option.some.inj (ho'.symm.trans h0)
        subst this
        have hne : k + 1 ≠ k := by omega
        simp only [if_true, hne, if_false]
        exact ⟨h1, h2, h3, e1⟩
      · have hne : k + 1 ≠ n := by omega
        simp only [hk, if_false, hne]
        exact e3 k o' (by omega) (by omega) ho'
    · have hne : n + (m + 1) ≠ n := by omega
      simp only [hne, if_false, List.drop_succ_cons]
      rw [show n + (m + 1) = n + 1 + m by omega]
      exact e4

def Src (ops : List Oper) (gs : Nat → Bool) (vs : Nat → Value) (frs : Nat → Fr) (i s : Nat) (g : Bool) (v : Value) : Prop :=
    (∃ k o, k < i ∧ ops[k]? = some o ∧ o.dst = some s ∧ g = gs k ∧ v = vs k ∧ ∀ k' o', k' < i → ops[k']? = some o' → o'.dst = some s → k' ≤ k) ∨
    ((∀ k o, k < i → ops[k]? = some o → o.dst ≠ some s) ∧ look (frs 0) s = some (g, v))
/-- What a frame of the text's order knows of a slot: it stems of the last one ahead that wrote it, or of the beginning. -/
theorem Run.src {gs : Nat → Bool} {vs : Nat → Value} {frs : Nat → Fr} (h : Run C ops σ m gs vs frs) (hm : m ≤ ops.length) : ∀ i, i ≤ m → ∀ s g v, look (frs i) s = some (g, v) → Src ops gs vs frs i s g v
  | 0, _, s, g, v, hl => .inr ⟨fun k o hk => by omega, hl⟩
  | i + 1, hi, s, g, v, hl => by
    have ho : ops[i]? = some ops[i] := List.getElem?_eq_getElem (by omega)
    obtain ⟨_, _, _, h4⟩ := h.at_ i _ (by omega) ho
    rw [h4] at hl
    have old : look (frs i) s = some (g, v) → ops[i].dst ≠ some s → Src ops gs vs frs (i + 1) s g v := fun hl' hne => by
      have ih := Run.src h hm i (by omega) s g v hl'
      rcases ih with ⟨k, o, a1, a2, a3, a4, a5, a6⟩ | ⟨a1, a2⟩
      · refine Or.inl ⟨k, o, by omega, a2, a3, a4, a5, fun k' o' hk' ho' hd' => ?_⟩
        by_cases e : k' = i
        · subst e; rw [ho] at ho'; rw [← Option.some.inj ho'] at hd'; exact absurd hd' hne
        · exact a6 k' o' (by omega) ho' hd'
      · refine Or.inr ⟨fun k o hk hok hd => ?_, a2⟩
        by_cases e : k = i
        · subst e; rw [ho] at hok; rw [← Option.some.inj hok] at hd; exact absurd hd hne
        · exact a1 k o (by omega) hok hd
    cases hd : ops[i].dst with
    | none => rw [hd] at hl; exact old hl (by rw [hd]; simp)
    | some d =>
      rw [hd] at hl
      simp only [pushFr] at hl
      unfold look at hl
      cases hb : Nat.beq d s with
      | true =>
        rw [hb] at hl
        simp only [cond_true, Option.some.injEq, Prod.mk.injEq] at hl
        have e := Nat.eq_of_beq_eq_true hb
        subst e
        exact .inl ⟨i, ops[i], by omega, ho, hd, hl.1.symm, hl.2.symm, fun k' _ hk' _ _ => by omega⟩
      | false =>
        rw [hb] at hl
        exact old hl (by rw [hd]; intro e; rw [Option.some.inj e] at hb; simp at hb)

/-- The state when the listed ones have been carried out, none of them behind the first m. -/
structure Inv (C : Cx) (ops : List Oper) (σ : Heap) (m : Nat) (gs : Nat → Bool) (vs : Nat → Value) (a0 : Act) (L : Array Bool) (a : Act) (w : World) : Prop where
  size : L.size = ops.length
  closed : ∀ i o, ops[i]? = some o → L.getD i false = true → ∀ j ∈ depsOf o, L.getD j false = true
  pre : ∀ i, m ≤ i → L.getD i false = false
  n : a.tmps.size = C.N
  wrote : ∀ s k o, L.getD k false = true → ops[k]? = some o → o.dst = some s → (∀ k' o', L.getD k' false = true → ops[k']? = some o' → o'.dst = some s → k' ≤ k) → a.tmps[s]? = some (gv (gs k) (vs k))
  kept : ∀ s, (∀ k o, L.getD k false = true → ops[k]? = some o → o.dst ≠ some s) → a.tmps[s]? = a0.tmps[s]?
  own : Own C.E σ w
  defs : Defs C σ a w
  hid : Hid C σ w

theorem Bef.listed {L : Array Bool} (hc : ∀ i o, ops[i]? = some o → L.getD i false = true → ∀ j ∈ depsOf o, L.getD j false = true) {k i : Nat} (h : Bef ops k i) : L.getD i false = true → L.getD k false = true := by
  obtain ⟨n, hn⟩ := h
  have key : ∀ n i, BefN ops n k i → L.getD i false = true → L.getD k false = true := by
    intro n
    induction n with
    | zero => rintro i ⟨o, h, hk⟩ hi; exact hc _ _ h hi _ hk
    | succ n ih => rintro i ⟨o, j, h, hj, hk⟩ hi; exact ih j hk (hc _ _ h hi _ hj)
  exact key n i hn
/-- .. and of one whose deps are all listed. -/
theorem Bef.listed' {L : Array Bool} (hc : ∀ i o, ops[i]? = some o → L.getD i false = true → ∀ j ∈ depsOf o, L.getD j false = true) {k i : Nat} {o : Oper} (h : Bef ops k i) (ho : ops[i]? = some o) (hd : ∀ j ∈ depsOf o, L.getD j false = true) : L.getD k false = true := by
  obtain ⟨o', h, h'⟩ := h.inv
  rw [ho] at h
  rw [Option.some.inj h] at hd
  rcases h' with hk | ⟨j, hj, h'⟩
  · exact hd _ hk
  · exact h'.listed hc (hd _ hj)

theorem mem_ready' {L : Array Bool} {i : Nat} (h : i ∈ Region.ready .any ops.toArray L) : L.getD i true = false ∧ ∃ o, ops[i]? = some o ∧ ∀ j ∈ depsOf o, L.getD j false = true := by
  unfold Region.ready at h
  rw [List.mem_filter] at h
  obtain ⟨h1, h2⟩ := h
  simp only [List.size_toArray, List.mem_range] at h1
  have ho : ops[i]? = some ops[i] := List.getElem?_eq_getElem h1
  simp only [List.getElem?_toArray, ho, Option.map_some, Option.getD_some, Bool.and_eq_true, Bool.not_eq_true'] at h2
  refine ⟨h2.1, ops[i], ho, fun j hj => ?_⟩
  unfold depsOf at hj
  obtain ⟨e, he, rfl⟩ := List.mem_map.1 hj
  rw [List.mem_filter] at he
  have := (Array.all_eq_true'.1 h2.2) e (by simpa using he.1)
  rw [he.2] at this
  simpa using this
theorem ready_of {L : Array Bool} {i : Nat} {o : Oper} (h1 : L.getD i true = false) (ho : ops[i]? = some o) (hd : ∀ j ∈ depsOf o, L.getD j false = true) : i ∈ Region.ready .any ops.toArray L := by
  unfold Region.ready
  rw [List.mem_filter]
  refine ⟨by simpa using (List.getElem?_eq_some_iff.1 ho).1, ?_⟩
  simp only [List.getElem?_toArray, ho, Option.map_some, Option.getD_some, Bool.and_eq_true, Bool.not_eq_true']
  refine ⟨h1, Array.all_eq_true'.2 (fun e he => ?_)⟩
  cases hb : Region.binds .any e with
  | false => simp
  | true =>
    have := hd e.on (List.mem_map.2 ⟨e, List.mem_filter.2 ⟨by simpa using he, hb⟩, rfl⟩)
    rw [this]; rfl
theorem getD_tf {L : Array Bool} {i : Nat} (h : L.getD i true = false) : L.getD i false = false := by
  rcases Nat.lt_or_ge i L.size with h' | h'
  · simp [h'] at h ⊢; exact h
  · simp [h'] at h
theorem getD_ft {L : Array Bool} {i : Nat} (hi : i < L.size) (h : L.getD i false = false) : L.getD i true = false := by
  simp [hi] at h ⊢; exact h
theorem getD_set {L : Array Bool} {i j : Nat} (hi : i < L.size) : (L.setIfInBounds i true).getD j false = if j = i then true else L.getD j false := by
  by_cases e : j = i
  · subst e; simp [hi]
  · simp only [e, if_false, Array.getD_eq_getD_getElem?, Array.getElem?_setIfInBounds_ne (Ne.symm e)]

/-- Behind the quiet ones: in the text's order. -/
theorem any_tail (hC : Chk ops m) : ∀ (f t : Nat) (L : Array Bool) (a : Act) (w : World), f + t = ops.length → m ≤ t → L.size = ops.length → (∀ k, L.getD k false = decide (k < t)) →
    wpListIn (fnc C.r) 0 C.P ops.toArray (lift C Q) (ops.drop t) a w → wpAnyIn (fnc C.r) 0 C.P .any ops.toArray (lift C Q) f L a w
  | 0, t, L, a, w, hf, hm, hs, hL, h => by
    have ht : t = ops.length := by omega
    subst ht
    refine ⟨List.eq_nil_iff_forall_not_mem.2 fun i hi => ?_, by simpa [wpListIn] using h⟩
    obtain ⟨h1, o, ho, _⟩ := mem_ready' hi
    have := hL i
    rw [getD_tf h1] at this
    have hlt := (List.getElem?_eq_some_iff.1 ho).1
    simp [hlt] at this
  | f + 1, t, L, a, w, hf, hm, hs, hL, h => by
    have ht : t < ops.length := by omega
    have ho : ops[t]? = some ops[t] := List.getElem?_eq_getElem ht
    have hun : L.getD t true = false := getD_ft (by omega) (by rw [hL]; simp)
    have hrdy : t ∈ Region.ready .any ops.toArray L := ready_of hun ho (fun j hj => by rw [hL]; have := hC.low t _ ho j hj; simpa using this)
    refine ⟨(fun he => by rw [he] at hrdy; cases hrdy), fun i hi => ?_⟩
    obtain ⟨h1, o, hoi, hd⟩ := mem_ready' hi
    have hc : ∀ i o, ops[i]? = some o → L.getD i false = true → ∀ j ∈ depsOf o, L.getD j false = true := fun i o ho' hl j hj => by
      rw [hL] at hl ⊢
      have := hC.low i o ho' j hj
      simp only [decide_eq_true_eq] at hl ⊢
      omega
    have hit : i = t := by
      have hge : t ≤ i := by
        have := hL i
        rw [getD_tf h1] at this
        simpa using this.symm
      by_cases e : i = t
      · exact e
      · have hb := hC.tail i o t (by omega) hoi (by omega)
        have := hb.listed' hc hoi hd
        rw [hL] at this
        simp at this
    subst hit
    have e : ops.drop i = ops[i] :: ops.drop (i + 1) := List.drop_eq_getElem_cons ht
    rw [e] at h
    unfold wpListIn at h
    unfold wpOpIn
    simp only [List.getElem?_toArray, ho]
    have hnext : ∀ a' w', wpListIn (fnc C.r) 0 C.P ops.toArray (lift C Q) (ops.drop (i + 1)) a' w' → wpAnyIn (fnc C.r) 0 C.P .any ops.toArray (lift C Q) f (L.setIfInBounds i true) a' w' := fun a' w' h' => by
      refine any_tail hC f (i + 1) _ a' w' (by omega) (by omega) (by simpa using hs) (fun k => ?_) h'
      rw [getD_set (by omega), hL]
      by_cases e : k = i
      · subst e; simp
      · simp only [e, if_false]; congr 1; apply propext; omega
    split at h
    · rename_i hw; rw [if_pos hw]; exact Oper.wpIn_mono hnext h
    · rename_i hw; rw [if_neg hw]; exact ⟨h.1, hnext _ _ h.2⟩

theorem okDst_put {a : Act} {d : Option Nat} {v : Value} {N : Nat} (hn : a.tmps.size = N) (hd : okDst N d = true) (s : Nat) : (a.put d v).tmps[s]? = if d = some s then some v else a.tmps[s]? := by
  cases d with
  | none => simp [Act.put]
  | some d =>
    have hlt : d < a.tmps.size := by rw [hn]; exact Nat.le_of_ble_eq_true hd
    by_cases e : d = s
    · subst e; simp [Act.put, hlt]
    · have : (some d = some s) = False := by simp [e]
      simp only [Act.put, Array.getElem?_setIfInBounds_ne e, this, if_false]

theorem Inv.next {gs : Nat → Bool} {vs : Nat → Value} {a0 a : Act} {L : Array Bool} {w w' : World} {i : Nat} (hC : Chk ops m) (hI : Inv C ops σ m gs vs a0 L a w) (hi : i < m) (ho : ops[i]? = some o) (hun : L.getD i false = false) (hd : ∀ j ∈ depsOf o, L.getD j false = true)
    (hok : okDst C.N o.dst = true) (hb : Below w.heap.size w w') : Inv C ops σ m gs vs a0 (L.setIfInBounds i true) (a.put o.dst (gv (gs i) (vs i))) w' := by
  have hil : i < L.size := by rw [hI.size]; exact (List.getElem?_eq_some_iff.1 ho).1
  have hst := Stp.of_below hb hI.own.has
  -- who is listed and writes what i writes stands ahead of i
  have hlow : ∀ k ok s, L.getD k false = true → ops[k]? = some ok → ok.dst = some s → o.dst = some s → k < i := fun k ok s hk hok' hks his => by
    have hkm : k < m := by
      rcases Nat.lt_or_ge k m with h | h
      · exact h
      · rw [hI.pre k h] at hk; cases hk
    have hne : i ≠ k := fun e => by subst e; rw [hun] at hk; cases hk
    have h1 := hC.pair k ok i o s hkm hi hok' ho his (Ne.symm hne) (.inr hks)
    by_cases hlt : i < k
    · rw [if_pos hlt] at h1
      have := h1.listed hI.closed hk
      rw [hun] at this; cases this
    · omega
  refine ⟨by simpa using hI.size, fun k ok hk hl j hj => ?_, fun k hk => ?_, by rw [put_size]; exact hI.n, fun s k ok hl hk hks hmax => ?_, fun s hno => ?_, hI.own.step hst, ?_, hI.hid.step hst⟩
  · rw [getD_set hil] at hl ⊢
    by_cases e : j = i
    · rw [if_pos e]
    · rw [if_neg e]
      by_cases e2 : k = i
      · subst e2; rw [ho] at hk; rw [← Option.some.inj hk] at hj; exact hd j hj
      · rw [if_neg e2] at hl; exact hI.closed k ok hk hl j hj
  · rw [getD_set hil, if_neg (by omega)]; exact hI.pre k hk
  · rw [okDst_put hI.n hok]
    by_cases e2 : k = i
    · subst e2
      rw [ho] at hk
      rw [Option.some.inj hk, if_pos hks]
    · rw [getD_set hil, if_neg e2] at hl
      have hne : o.dst ≠ some s := fun his => by
        have h1 := hlow k ok s hl hk hks his
        have h2 := hmax i o (by rw [getD_set hil, if_pos rfl]) ho his
        omega
      rw [if_neg hne]
      exact hI.wrote s k ok hl hk hks (fun k' o' hl' hk' hs' => hmax k' o' (by rw [getD_set hil]; split <;> simp_all) hk' hs')
  · rw [okDst_put hI.n hok, if_neg (hno i o (by rw [getD_set hil, if_pos rfl]) ho)]
    exact hI.kept s (fun k ok hl hk => hno k ok (by rw [getD_set hil]; split <;> simp_all) hk)
  · obtain ⟨dl, h1, h2, h3⟩ := hI.defs.step hst
    refine ⟨dl, ?_, h2, h3⟩
    cases o.dst <;> exact h1

/-- At an operation that may come up, the slots that it names hold what they hold in the text's order. -/
theorem Inv.names {gs : Nat → Bool} {vs : Nat → Value} {frs : Nat → Fr} {a0 a : Act} {L : Array Bool} {w : World} {i : Nat} (hC : Chk ops m) (hm : m ≤ ops.length) (hR : Run C ops σ m gs vs frs) (h0 : LOk (look (frs 0)) a0) (hI : Inv C ops σ m gs vs a0 L a w) (hi : i < m)
    (ho : ops[i]? = some o) (hun : L.getD i false = false) (hd : ∀ j ∈ depsOf o, L.getD j false = true) : LOk (LR (namesOf ops o) (look (frs i))) a := by
  intro s g v hs
  obtain ⟨hn, hl⟩ := LR_some hs
  have hlow : ∀ k ok, L.getD k false = true → ops[k]? = some ok → ok.dst = some s → k < i := fun k ok hk hok' hks => by
    have hkm : k < m := by
      rcases Nat.lt_or_ge k m with h | h
      · exact h
      · rw [hI.pre k h] at hk; cases hk
    have hne : i ≠ k := fun e => by subst e; rw [hun] at hk; cases hk
    have h1 := hC.pair i o k ok s hi hkm ho hok' hks hne (.inl hn)
    by_cases hlt : k < i
    · exact hlt
    · rw [if_neg hlt] at h1
      have := h1.listed hI.closed hk
      rw [hun] at this; cases this
  rcases hR.src hm i (by omega) s g v hl with ⟨k, ok, a1, a2, a3, rfl, rfl, a6⟩ | ⟨a1, a2⟩
  · have h1 := hC.pair i o k ok s hi (by omega) ho a2 a3 (by omega) (.inl hn)
    rw [if_pos a1] at h1
    exact hI.wrote s k ok (h1.listed' hI.closed ho hd) a2 a3 (fun k' o' hk' ho' hs' => a6 k' o' (hlow k' o' hk' ho' hs') ho' hs')
  · rw [hI.kept s (fun k ok hk hok' hks => a1 k ok (hlow k ok hk hok' hks) hok' hks)]
    exact h0 s g v a2

theorem any_head {gs : Nat → Bool} {vs : Nat → Value} {frs : Nat → Fr} {a0 : Act} (hC : Chk ops m) (hm : m ≤ ops.length) (hR : Run C ops σ m gs vs frs) (h0 : LOk (look (frs 0)) a0) (hK : KO C ops Q (ops.drop m) (frs m) σ) : ∀ (f c : Nat) (L : Array Bool) (a : Act) (w : World),
    c = ((List.range m).filter fun i => !L.getD i false).length → f = c + (ops.length - m) → Inv C ops σ m gs vs a0 L a w → wpAnyIn (fnc C.r) 0 C.P .any ops.toArray (lift C Q) f L a w
  | f, 0, L, a, w, hc, hf, hI => by
    have hall : ∀ i, i < m → L.getD i false = true := fun i hi => by
      have he : ((List.range m).filter fun i => !L.getD i false) = [] := List.eq_nil_of_length_eq_zero hc.symm
      have := (List.filter_eq_nil_iff.1 he) i (List.mem_range.2 hi)
      simpa using this
    refine any_tail hC f m L a w (by omega) (Nat.le_refl _) hI.size (fun k => ?_) ?_
    · by_cases hk : k < m
      · simp [hall k hk, hk]
      · simp [hI.pre k (by omega), hk]
    · refine hK a w ⟨hI.n, fun s g v hl => ?_, hI.own, hI.defs, hI.hid⟩
      rcases hR.src hm m (Nat.le_refl _) s g v hl with ⟨k, ok, a1, a2, a3, rfl, rfl, a6⟩ | ⟨a1, a2⟩
      · exact hI.wrote s k ok (hall k a1) a2 a3 (fun k' o' hk' ho' hs' => a6 k' o' (by
          rcases Nat.lt_or_ge k' m with h | h
          · exact h
          · rw [hI.pre k' h] at hk'; cases hk') ho' hs')
      · rw [hI.kept s (fun k ok hk hok' hks => a1 k ok (by
          rcases Nat.lt_or_ge k m with h | h
          · exact h
          · rw [hI.pre k h] at hk; cases hk) hok' hks)]
        exact h0 s g v a2
  | 0, c + 1, L, a, w, hc, hf, hI => by omega
  | f + 1, c + 1, L, a, w, hc, hf, hI => by
    -- one of the first m is not listed
    obtain ⟨u, hu, hun⟩ : ∃ u, u < m ∧ L.getD u false = false := by
      have : ((List.range m).filter fun i => !L.getD i false) ≠ [] := fun e => by rw [e] at hc; simp at hc
      obtain ⟨u, hu⟩ := List.exists_mem_of_ne_nil _ this
      rw [List.mem_filter] at hu
      exact ⟨u, List.mem_range.1 hu.1, by simpa using hu.2⟩
    have hhead : ∀ i ∈ Region.ready .any ops.toArray L, i < m := fun i hi => by
      obtain ⟨h1, o, ho, hd⟩ := mem_ready' hi
      rcases Nat.lt_or_ge i m with h | h
      · exact h
      · have hb := hC.tail i o u h ho (by omega)
        have := hb.listed' hI.closed ho hd
        rw [hun] at this; cases this
    refine ⟨fun he => ?_, fun i hi => ?_⟩
    · -- the least one that is not listed is ready
      exfalso
      have key : ∀ n u, u < n → u < m → L.getD u false = false → False := by
        intro n
        induction n with
        | zero => intro u hu; omega
        | succ n ih =>
          intro u hu hum hun
          have ho : ops[u]? = some ops[u] := List.getElem?_eq_getElem (by omega)
          by_cases hd : ∀ j ∈ depsOf ops[u], L.getD j false = true
          · have := ready_of (getD_ft (by rw [hI.size]; omega) hun) ho hd
            rw [he] at this; cases this
          · obtain ⟨j, hj⟩ := Classical.not_forall.1 hd
            obtain ⟨hj1, hj2⟩ := Classical.not_imp.1 hj
            have := hC.low u _ ho j hj1
            exact ih j (by omega) (by omega) (by simpa using hj2)
      exact key (u + 1) u (by omega) hu hun
    · have him := hhead i hi
      obtain ⟨h1, o, ho, hd⟩ := mem_ready' hi
      have hun' := getD_tf h1
      obtain ⟨g1, g2, g3, g4⟩ := hR.at_ i o him ho
      have hL := hI.names hC hm hR h0 him ho hun' hd
      have hcnt : c = ((List.range m).filter fun k => !(L.setIfInBounds i true).getD k false).length := by
        have hil : i < L.size := by rw [hI.size]; exact (List.getElem?_eq_some_iff.1 ho).1
        have e1 : ((List.range m).filter fun k => !(L.setIfInBounds i true).getD k false) = ((List.range m).filter fun k => !L.getD k false).filter (fun k => k != i) := by
          rw [List.filter_filter]
          apply List.filter_congr
          intro k _
          rw [getD_set hil]
          by_cases e : k = i
          · subst e; simp
          · simp [e]
        have hmem : i ∈ (List.range m).filter fun k => !L.getD k false := List.mem_filter.2 ⟨List.mem_range.2 him, by simpa using hun'⟩
        have hnd : ((List.range m).filter fun k => !L.getD k false).Nodup := List.nodup_range.filter _
        rw [e1, ← hnd.erase_eq_filter, List.length_erase_of_mem hmem]
        omega
      have hnext : ∀ w', Below w.heap.size w w' → wpAnyIn (fnc C.r) 0 C.P .any ops.toArray (lift C Q) f (L.setIfInBounds i true) (a.put o.dst (gv (gs i) (vs i))) w' := fun w' hb =>
        any_head hC hm hR h0 hK f c _ _ w' hcnt (by omega) (hI.next hC him ho hun' hd g2 hb)
      unfold wpOpIn
      simp only [List.getElem?_toArray, ho]
      have hw : Region.wanted o (yielded ops.toArray a.tmps) = gs i := by
        rcases g1 with g1 | g1
        · exact guardOf_ok hL g1
        · exact guardIn_ok hL g1
      rw [hw]
      cases hgi : gs i with
      | true =>
        rw [if_pos rfl]
        rw [hgi] at g3
        refine (g3.eff hL hI.own).wpIn ?_
        rintro x w' ⟨rfl, hb⟩
        have := hnext w' hb
        rw [hgi] at this
        exact this
      | false =>
        rw [if_neg (by simp)]
        refine ⟨fun _ _ => trivial, ?_⟩
        have := hnext w (Below.refl _ _)
        rw [hgi] at this
        exact this

/-- A statement whose order is open: the first m operations, quiet, in the text's order; the rest stands behind all of them. -/
theorem KW.draw {id : Nat} {l : List Oper} (m : Nat) (hc : chkD l m = true) (h : KD C l Q σ m l fr) : KW C Q (.region id l.toArray true) fr σ := by
  intro a w hS
  obtain ⟨gs, vs, frs, e1, e2, e3, e4⟩ := KD.run m l 0 fr (by simp) h
  have hR : Run C l σ m gs vs frs := ⟨fun k o hk ho => e3 k o (Nat.zero_le _) (by omega) ho⟩
  rw [Nat.zero_add] at e4
  refine wpIn_region_any C.T.mixed ?_
  have hf : ∀ i, (Array.replicate l.toArray.size false).getD i false = false := fun i => by
    rw [Array.getD_eq_getD_getElem?]
    rcases Nat.lt_or_ge i l.length with h | h
    · simp [h]
    · simp [h]
  refine any_head (chkD_ok hc) e2 hR (by rw [e1]; exact hS.fr) e4 _ _ _ a _ rfl ?_ ⟨by simp, fun i o ho hl => ?_, fun i _ => hf i, hS.n, fun s k o hl => ?_, fun s _ => rfl, ?_, ?_, hS.hid⟩
  · have e : ((List.range m).filter fun i => !(Array.replicate l.toArray.size false).getD i false) = List.range m := by
      rw [List.filter_eq_self]; intro i _; rw [hf]; rfl
    rw [e]
    simp
    omega
  · rw [hf] at hl; cases hl
  · rw [hf] at hl; cases hl
  · exact ⟨hS.own.os, hS.own.tape, hS.own.output, hS.own.size, hS.own.old, ⟨hS.own.has.has, hS.own.has.nodup⟩, hS.own.new⟩
  · exact hS.defs
/-- The quiet ones ahead of the first effect. -/
def effB (o : Oper) : Bool := match o.op with
  | .store .. => true
  | .alloc .. => true
  | .box .. => true
  | .buildSlice .. => true
  | .makeSlice .. => true
  | _ => false
def preU : List Oper → Option (List Unit)
  | [] => some []
  | o :: r => match effB o with
    | true => some []
    | false => match preU r with
      | some u => some (() :: u)
      | none => none
theorem KW.drawU {id : Nat} {l : List Oper} {u : List Unit} (hu : preU l = some u) (hc : chkD l u.length = true) (h : KD C l Q σ u.length l fr) : KW C Q (.region id l.toArray true) fr σ := KW.draw u.length hc h
end
attribute [irreducible] KD
end Go.K
