/- The program logic, third part: rows of operations, control, functions. -/
import Derived.Test.YtcnebanpnnblbaaDoorK2
import Derived.OwnWalkIn
namespace Go.K
open Go Go.RowKit

abbrev KQ := Exit → Fr → Heap → Prop
def At (Q : KQ) (e : Exit) (fr : Fr) (σ : Heap) : Prop := Q e fr σ

def lift (C : Cx) (Q : KQ) : Exit → Act → World → Prop
  | .panic _, _, _ => False
  | .outgrown, _, _ => False
  | e, a, w => ∃ fr σ, St C fr σ a w ∧ Q e fr σ

def KO (C : Cx) (ops : List Oper) (Q : KQ) (l : List Oper) (fr : Fr) (σ : Heap) : Prop :=
  ∀ a w, St C fr σ a w → wpListIn (fnc C.r) 0 C.P ops.toArray (lift C Q) l a w

def KW (C : Cx) (Q : KQ) (c : Code) (fr : Fr) (σ : Heap) : Prop :=
  ∀ a w, St C fr σ a w → c.wpIn (fnc C.r) 0 C.P (lift C Q) a w

def Eff (P : Program) (o : Oper) (a : Act) (w : World) (R : Value → World → Prop) : Prop :=
  (∃ v w', (execOp a.eval o).run P w = .ok (.value v) w' ∧ R v w') ∨
  (∃ w', (execOp a.eval o).run P w = .ok .skip w' ∧ R undef w') ∨
  (∃ f args, (execOp a.eval o).run P w = .ok (.enter f args) w ∧ Calls P f args w fun e w' => ∃ v, e = .returned v ∧ R v w')

theorem not_defer {P : Program} {ρ : Operand → Value} {o : Oper} {w w' : World} {x : Next} (h : (execOp ρ o).run P w = .ok x w') (hx : ∀ d, x ≠ .defer d) : ∀ c, o.op ≠ .defer c := by
  intro c hc
  simp only [execOp, hc, Sem.run_bind] at h
  cases hr : (resolve ρ c o.type).run P w with
  | ok d w1 => rw [hr] at h; simp only [Result.andThen_ok, Sem.run_pure, Result.ok.injEq] at h; exact hx d h.1.symm
  | halt x w1 => rw [hr] at h; cases h

theorem Eff.wpIn {P : Program} {r : Option Nat} {o : Oper} {a : Act} {w : World} {R : Value → World → Prop} {K : Act → World → Prop} {Q : Exit → Act → World → Prop} (h : Eff P o a w R)
    (hk : ∀ v w', R v w' → K (a.put o.dst v) w') : o.wpIn (fnc r) 0 P a w K Q := by
  refine ⟨fun _ _ => trivial, ?_⟩
  rcases h with ⟨v, w', h1, h2⟩ | ⟨w', h1, h2⟩ | ⟨f, args, h1, h2⟩
  · rw [Oper.semAt_plain (fnc r) _ _ (not_defer h1 (by simp)), h1]; exact hk v w' h2
  · rw [Oper.semAt_plain (fnc r) _ _ (not_defer h1 (by simp)), h1]; exact hk undef w' h2
  · rw [Oper.semAt_plain (fnc r) _ _ (not_defer h1 (by simp)), h1]
    refine ⟨(fun h => by cases h), callsIn_fnc.2 (h2.mono ?_)⟩
    rintro e w' ⟨v, rfl, h3⟩
    exact hk v w' h3

section
variable {C : Cx} {ops : List Oper} {Q : KQ} {o : Oper} {rest : List Oper} {fr : Fr} {σ : Heap} {d : Nat} {g : Bool} {v : Value}

theorem KO.nil (h : At Q .normal fr σ) : KO C ops Q [] fr σ := fun a w hS => ⟨fr, σ, hS, h⟩

theorem Qt.eff {L : Look} {a : Act} {w : World} (hq : Qt C L σ true o v) (hL : LOk L a) (hO : Own C.E σ w) : Eff C.P o a w fun u w' => u = v ∧ Below w.heap.size w w' := by
  rcases hq a w hL hO rfl with h | ⟨f, args, h, hc⟩
  · exact .inl ⟨v, w, h, rfl, Below.refl _ _⟩
  · exact .inr (.inr ⟨f, args, h, hc.mono fun e w' ⟨h1, h2⟩ => ⟨v, h1, rfl, h2⟩⟩)

theorem KO.val (hg : guardOf ops (look fr) o = some g) (hd : o.dst = some d) (hn : Nat.blt d C.N = true) (hq : Qt C (look fr) σ g o v) (h : KO C ops Q rest ((d, g, v) :: fr) σ) : KO C ops Q (o :: rest) fr σ := by
  intro a w hS
  unfold wpListIn
  rw [guardOf_ok hS.fr hg]
  cases g with
  | true =>
    rw [if_pos rfl]
    refine (hq.eff hS.fr hS.own).wpIn ?_
    rintro u w' ⟨rfl, hb⟩
    rw [hd]
    exact h _ _ ((hS.put (g := true) (v := u) hn).step (Stp.of_below hb hS.own.has))
  | false =>
    rw [if_neg (by simp)]
    refine ⟨fun _ _ => trivial, ?_⟩
    rw [hd]
    exact h _ _ (hS.put (g := false) (v := v) hn)

theorem KO.valIn (hg : guardIn ops (look fr) o = some g) (hd : o.dst = some d) (hn : Nat.blt d C.N = true) (hq : Qt C (look fr) σ g o v) (h : KO C ops Q rest ((d, g, v) :: fr) σ) : KO C ops Q (o :: rest) fr σ := by
  intro a w hS
  unfold wpListIn
  rw [guardIn_ok hS.fr hg]
  cases g with
  | true =>
    rw [if_pos rfl]
    refine (hq.eff hS.fr hS.own).wpIn ?_
    rintro u w' ⟨rfl, hb⟩
    rw [hd]
    exact h _ _ ((hS.put (g := true) (v := u) hn).step (Stp.of_below hb hS.own.has))
  | false =>
    rw [if_neg (by simp)]
    refine ⟨fun _ _ => trivial, ?_⟩
    rw [hd]
    exact h _ _ (hS.put (g := false) (v := v) hn)

theorem KO.skip (hg : guardOf ops (look fr) o = some false) (hd : o.dst = some d) (hn : Nat.blt d C.N = true) (h : KO C ops Q rest ((d, false, undef) :: fr) σ) : KO C ops Q (o :: rest) fr σ := by
  intro a w hS
  unfold wpListIn
  rw [guardOf_ok hS.fr hg, if_neg (by simp)]
  refine ⟨fun _ _ => trivial, ?_⟩
  rw [hd]
  exact h _ _ (hS.put (g := false) (v := undef) hn)
theorem KO.skip0 (hg : guardOf ops (look fr) o = some false) (hd : o.dst = none) (h : KO C ops Q rest fr σ) : KO C ops Q (o :: rest) fr σ := by
  intro a w hS
  unfold wpListIn
  rw [guardOf_ok hS.fr hg, if_neg (by simp)]
  refine ⟨fun _ _ => trivial, ?_⟩
  rw [hd]
  exact h _ _ hS

/-- An operation that turns the tracked heap. -/
theorem KO.eff {Post : Value → Heap → Prop} (hg : guardOf ops (look fr) o = some true) (hd : o.dst = some d) (hn : Nat.blt d C.N = true)
    (he : ∀ a w, LOk (look fr) a → Own C.E σ w → Eff C.P o a w fun v w' => ∃ σ', Post v σ' ∧ Stp σ σ' w w')
    (h : ∀ v σ', Post v σ' → KO C ops Q rest ((d, true, v) :: fr) σ') : KO C ops Q (o :: rest) fr σ := by
  intro a w hS
  unfold wpListIn
  rw [guardOf_ok hS.fr hg, if_pos rfl]
  refine (he a w hS.fr hS.own).wpIn ?_
  rintro v w' ⟨σ', hp, hs⟩
  rw [hd]
  exact h v σ' hp _ _ ((hS.put (g := true) (v := v) hn).step hs)
theorem KO.eff0 {Post : Value → Heap → Prop} (hg : guardOf ops (look fr) o = some true) (hd : o.dst = none)
    (he : ∀ a w, LOk (look fr) a → Own C.E σ w → Eff C.P o a w fun v w' => ∃ σ', Post v σ' ∧ Stp σ σ' w w')
    (h : ∀ v σ', Post v σ' → KO C ops Q rest fr σ') : KO C ops Q (o :: rest) fr σ := by
  intro a w hS
  unfold wpListIn
  rw [guardOf_ok hS.fr hg, if_pos rfl]
  refine (he a w hS.fr hS.own).wpIn ?_
  rintro v w' ⟨σ', hp, hs⟩
  rw [hd]
  exact h v σ' hp _ _ (hS.step hs)

/-! ### New blocks -/
theorem Stp.alloc {w : World} (h : Has σ w) (o : Obj) : Stp σ ((w.heap.size, o) :: σ) w (w.alloc o) where
  os := rfl
  tape := rfl
  output := rfl
  size := by rw [World.size_alloc]; omega
  old := fun b hb _ => Below.heap_alloc w o b hb
  has := ⟨fun p hp => by
    rcases List.mem_cons.1 hp with rfl | hp
    · exact World.alloc_heap_new w o
    · rw [Below.heap_alloc w o p.1 (lt_of_get (h.has p hp))]; exact h.has p hp, by
    rw [keys_cons, List.nodup_cons]
    exact ⟨fun hm => Nat.lt_irrefl _ (h.lt _ hm), h.nodup⟩⟩
  new := fun b hb => by
    rw [keys_cons] at hb
    rcases List.mem_cons.1 hb with rfl | hb
    · exact .inr (Nat.le_refl _)
    · exact .inl hb

def vcells : Value → Option (List Value)
  | .agg ⟨cs⟩ => some cs
  | v => some [v]
theorem vcells_ok {v : Value} {cs : List Value} (h : vcells v = some cs) : v.cells = cs.toArray := by
  cases v with
  | agg c => obtain ⟨l⟩ := c; simp only [vcells, Option.some.injEq] at h; subst h; rfl
  | _ => simp only [vcells, Option.some.injEq] at h; subst h; rfl

theorem KO.alloc {t : TypeId} {z : Value} {n m : Nat} {cs : List Value} (hg : guardOf ops (look fr) o = some true) (hd : o.dst = some d) (hn : Nat.blt d C.N = true) (ho : o.op = .alloc t)
    (hz : C.T.i t = some (z, n, m)) (hc : vcells z = some cs) (h : ∀ b, b ∉ keys σ → KO C ops Q rest ((d, true, .pointer (some ⟨b, 0, none⟩)) :: fr) ((b, cl cs t) :: σ)) : KO C ops Q (o :: rest) fr σ := by
  refine KO.eff (Post := fun v σ' => ∃ b, b ∉ keys σ ∧ v = .pointer (some ⟨b, 0, none⟩) ∧ σ' = (b, cl cs t) :: σ) hg hd hn (fun a w hL hO => .inl ?_) ?_
  · refine ⟨.pointer (some ⟨w.heap.size, 0, none⟩), w.alloc (cl cs t), ?_, _, ⟨w.heap.size, fun hm => Nat.lt_irrefl _ (hO.has.lt _ hm), rfl, rfl⟩, Stp.alloc hO.has _⟩
    simp [execOp, ho, Instr.alloc, run_zero hz, newVar, newRow, vcells_ok hc, cl]
  · rintro v σ' ⟨b, hb, rfl, rfl⟩; exact h b hb
theorem KO.box {t : TypeId} {x : Operand} {cs : List Value} (hg : guardOf ops (look fr) o = some true) (hd : o.dst = some d) (hn : Nat.blt d C.N = true) (ho : o.op = .box t x)
    (hx : opnd (look fr) x = some (true, v)) (hc : vcells v = some cs) (h : ∀ b, b ∉ keys σ → KO C ops Q rest ((d, true, .pointer (some ⟨b, 0, none⟩)) :: fr) ((b, cl cs t) :: σ)) : KO C ops Q (o :: rest) fr σ := by
  refine KO.eff (Post := fun v σ' => ∃ b, b ∉ keys σ ∧ v = .pointer (some ⟨b, 0, none⟩) ∧ σ' = (b, cl cs t) :: σ) hg hd hn (fun a w hL hO => .inl ?_) ?_
  · refine ⟨.pointer (some ⟨w.heap.size, 0, none⟩), w.alloc (cl cs t), ?_, _, ⟨w.heap.size, fun hm => Nat.lt_irrefl _ (hO.has.lt _ hm), rfl, rfl⟩, Stp.alloc hO.has _⟩
    simp [execOp, ho, Instr.box, opnd_ev hL hx rfl, newVar, newRow, vcells_ok hc, cl]
  · rintro v σ' ⟨b, hb, rfl, rfl⟩; exact h b hb

/-! ### Stores -/
def getI : Nat → Heap → Option (Nat × Obj)
  | _, [] => none
  | 0, p :: _ => some p
  | n + 1, _ :: r => getI n r
def setI : Nat → Nat × Obj → Heap → Option Heap
  | _, _, [] => none
  | 0, q, _ :: r => some (q :: r)
  | n + 1, q, p :: r => match setI n q r with
    | some r' => some (p :: r')
    | none => none

theorem setI_spec : ∀ {i : Nat} {σ σ' : Heap} {b : Nat} {o o' : Obj}, getI i σ = some (b, o) → setI i (b, o') σ = some σ' →
    keys σ' = keys σ ∧ (b, o) ∈ σ ∧ (b, o') ∈ σ' ∧ ((keys σ).Nodup → ∀ p ∈ σ', p = (b, o') ∨ (p ∈ σ ∧ p.1 ≠ b))
  | i, [], σ', b, o, o', h, _ => by cases i <;> cases h
  | 0, p :: r, σ', b, o, o', h, hs => by
    simp only [getI, Option.some.injEq] at h
    simp only [setI, Option.some.injEq] at hs
    subst h hs
    refine ⟨rfl, by simp, by simp, fun hn q hq => ?_⟩
    rw [keys_cons, List.nodup_cons] at hn
    rcases List.mem_cons.1 hq with rfl | hq
    · exact .inl rfl
    · exact .inr ⟨List.mem_cons_of_mem _ hq, fun e => hn.1 (by have := mem_keys hq; rw [e] at this; exact this)⟩
  | i + 1, p :: r, σ', b, o, o', h, hs => by
    simp only [getI] at h
    simp only [setI] at hs
    cases h1 : setI i (b, o') r with
    | none => rw [h1] at hs; cases hs
    | some r' =>
      rw [h1] at hs
      simp only [Option.some.injEq] at hs
      subst hs
      obtain ⟨e1, e2, e3, e4⟩ := setI_spec h h1
      refine ⟨by simp [e1], List.mem_cons_of_mem _ e2, List.mem_cons_of_mem _ e3, fun hn q hq => ?_⟩
      rw [keys_cons, List.nodup_cons] at hn
      rcases List.mem_cons.1 hq with rfl | hq
      · exact .inr ⟨List.mem_cons_self, fun e => hn.1 (by rw [e]; exact mem_keys e2)⟩
      · exact (e4 hn.2 q hq).imp id (fun ⟨a1, a2⟩ => ⟨List.mem_cons_of_mem _ a1, a2⟩)

/-- One tracked block turned. -/
theorem Stp.set {i : Nat} {σ' : Heap} {b : Nat} {o1 o2 : Obj} {w w' : World} (h : Has σ w) (hg : getI i σ = some (b, o1)) (hs : setI i (b, o2) σ = some σ') (e1 : w'.os = w.os) (e2 : w'.tape = w.tape) (e3 : w'.output = w.output)
    (e4 : w'.heap.size = w.heap.size) (e5 : ∀ k, k ≠ b → w'.heap[k]? = w.heap[k]?) (e6 : w'.heap[b]? = some o2) : Stp σ σ' w w' := by
  obtain ⟨k1, k2, k3, k4⟩ := setI_spec hg hs
  refine ⟨e1, e2, e3, by omega, fun k hk hn => e5 k (fun e => hn (by rw [e]; exact mem_keys k2)), ⟨fun p hp => ?_, by rw [k1]; exact h.nodup⟩, fun k hk => .inl (by rw [← k1]; exact hk)⟩
  rcases k4 h.nodup p hp with rfl | ⟨a1, a2⟩
  · exact e6
  · rw [e5 p.1 a2]; exact h.has p a1

def Wr (cs : List Value) (off : Nat) (vs cs' : List Value) : Prop := off + vs.length ≤ cs.length ∧ cs' = cs.take off ++ vs ++ cs.drop (off + vs.length)

theorem wr_step (cs r : List Value) (v : Value) (p : Nat) (h : p < cs.length) :
    (cs.set p v).take (p + 1) ++ r ++ (cs.set p v).drop (p + 1 + r.length) = cs.take p ++ v :: r ++ cs.drop (p + (r.length + 1)) := by
  have e0 : cs.set p v = cs.take p ++ v :: cs.drop (p + 1) := by rw [List.set_eq_take_append_cons_drop, if_pos h]
  have e1 : (cs.take p).length = p := by rw [List.length_take]; omega
  have e2 : (cs.take p ++ v :: cs.drop (p + 1)).take (p + 1) = cs.take p ++ [v] := by
    rw [List.take_append, e1, List.take_of_length_le (by omega), show p + 1 - p = 1 by omega]; rfl
  have e3 : (cs.take p ++ v :: cs.drop (p + 1)).drop (p + 1 + r.length) = cs.drop (p + (r.length + 1)) := by
    rw [List.drop_append, e1, List.drop_of_length_le (by omega), show p + 1 + r.length - p = r.length + 1 by omega, List.drop_succ_cons, List.drop_drop]
    simp only [List.nil_append]
    congr 1
    omega
  rw [e0, e2, e3]
  simp

theorem run_storeCells {P : Program} {b : Nat} {e : TypeId} : ∀ (vs : List Value) (off i : Nat) (cs : List Value) (w : World), w.heap[b]? = some (cl cs e) → off + i + vs.length ≤ cs.length → vs.all Value.oneCell' = true →
    ∃ w', (storeCells ⟨b, off, none⟩ vs i).run P w = .ok () w' ∧ w'.os = w.os ∧ w'.tape = w.tape ∧ w'.output = w.output ∧ w'.heap.size = w.heap.size ∧ (∀ k, k ≠ b → w'.heap[k]? = w.heap[k]?) ∧
      w'.heap[b]? = some (cl (cs.take (off + i) ++ vs ++ cs.drop (off + i + vs.length)) e)
  | [], off, i, cs, w, h, _, _ => ⟨w, by simp [storeCells], rfl, rfl, rfl, rfl, fun _ _ => rfl, by simpa using h⟩
  | v :: r, off, i, cs, w, h, hl, ho => by
    simp only [List.all_cons, Bool.and_eq_true] at ho
    simp only [List.length_cons] at hl
    have h1 : w.cell? ⟨b, off + i, none⟩ = some cs[off + i] := by rw [cell_of_cl h]; exact List.getElem?_eq_getElem (by omega)
    have h2 : (store (Addr.add ⟨b, off, none⟩ i) v).run P w = .ok () (w.setCell ⟨b, off + i, none⟩ v) := by
      rw [Addr.add_lit, run_store P w _ v _ ho.1, h1]
      simp [frozen_of_cl h]
    have h3 : (w.setCell ⟨b, off + i, none⟩ v).heap[b]? = some (cl (cs.set (off + i) v) e) := by
      simp [World.setCell, Array.getElem?_modify, h, cl]
    obtain ⟨w', r1, r2, r3, r4, r5, r6, r7⟩ := run_storeCells (P := P) r off (i + 1) (cs.set (off + i) v) _ h3 (by simp; omega) ho.2
    refine ⟨w', by simp only [storeCells, Sem.run_bind, h2, Result.andThen_ok]; exact r1, r2, r3, r4, by rw [r5]; simp [World.setCell], fun k hk => ?_, ?_⟩
    · rw [r6 k hk]; exact Below.heap_setCell _ _ _ _ hk
    · rw [r7]
      have e1 : off + (i + 1) = off + i + 1 := by omega
      rw [e1, wr_step cs r v (off + i) (by omega), List.length_cons]

def writeN : Nat → List Value → List Value → Option (List Value)
  | _, [], cs => some cs
  | _ + 1, _, [] => none
  | n + 1, vs, c :: cs => match writeN n vs cs with
    | some r => some (c :: r)
    | none => none
  | 0, v :: vs, _ :: cs => match writeN 0 vs cs with
    | some r => some (v :: r)
    | none => none
  | 0, _ :: _, [] => none
theorem writeN_ok : ∀ {n : Nat} {vs cs cs' : List Value}, n ≤ cs.length → writeN n vs cs = some cs' → Wr cs n vs cs'
  | n, [], cs, cs', hn, h => by simp only [writeN, Option.some.injEq] at h; subst h; exact ⟨by simpa using hn, by simp⟩
  | n + 1, v :: vs, [], cs', hn, h => by simp at hn
  | n + 1, v :: vs, c :: cs, cs', hn, h => by
    simp only [writeN] at h
    cases h1 : writeN n (v :: vs) cs with
    | none => rw [h1] at h; cases h
    | some r =>
      rw [h1] at h
      simp only [Option.some.injEq] at h
      subst h
      have := writeN_ok (by simpa using hn) h1
      obtain ⟨a1, a2⟩ := this
      refine ⟨by simp at a1 ⊢; omega, ?_⟩
      rw [a2]
      have e : n + 1 + (v :: vs).length = (n + (v :: vs).length) + 1 := by omega
      rw [e]
      simp
  | 0, v :: vs, c :: cs, cs', hn, h => by
    simp only [writeN] at h
    cases h1 : writeN 0 vs cs with
    | none => rw [h1] at h; cases h
    | some r =>
      rw [h1] at h
      simp only [Option.some.injEq] at h
      subst h
      obtain ⟨a1, a2⟩ := writeN_ok (by omega) h1
      refine ⟨by simp at a1 ⊢; omega, ?_⟩
      rw [a2]
      simp
  | 0, v :: vs, [], cs', hn, h => by simp [writeN] at h

theorem KO.storeW {t : TypeId} {x y : Operand} {z : Value} {b off n m i : Nat} {cs vs cs' : List Value} {e : TypeId} {σ' : Heap} (hg : guardOf ops (look fr) o = some true) (hd : o.dst = none) (ho : o.op = .store t x y)
    (hx : opnd (look fr) x = some (true, .pointer (some ⟨b, off, none⟩))) (hy : opnd (look fr) y = some (true, v)) (hc : vcells v = some vs) (h1 : vs.all Value.oneCell' = true) (hz : C.T.i t = some (z, n, m)) (hl : vs.length = n)
    (hi : getI i σ = some (b, cl cs e)) (hw : Wr cs off vs cs') (hs : setI i (b, cl cs' e) σ = some σ') (h : KO C ops Q rest fr σ') : KO C ops Q (o :: rest) fr σ := by
  refine KO.eff0 (Post := fun _ s => s = σ') hg hd (fun a w hL hO => .inr (.inl ?_)) (fun _ _ e => by subst e; exact h)
  have hb := hO.has.has _ (setI_spec hi hs).2.1
  obtain ⟨w', r1, r2, r3, r4, r5, r6, r7⟩ := run_storeCells (P := C.P) vs off 0 cs w hb (by simpa using hw.1) h1
  refine ⟨w', ?_, σ', rfl, Stp.set hO.has hi hs r2 r3 r4 r5 r6 (by rw [r7]; simp only [Nat.add_zero]; rw [hw.2])⟩
  have hsz : v.cells.size = n := by rw [vcells_ok hc]; simpa using hl
  simp [execOp, ho, opnd_ev hL hx rfl, opnd_ev hL hy rfl, Instr.storeAt, Instr.sureAddr, storeVar, run_sizeOf hz, hsz, vcells_ok hc, r1, hl]
theorem KO.store {t : TypeId} {x y : Operand} {z : Value} {b off n m i : Nat} {cs vs cs' : List Value} {e : TypeId} {σ' : Heap} (hg : guardOf ops (look fr) o = some true) (hd : o.dst = none) (ho : o.op = .store t x y)
    (hx : opnd (look fr) x = some (true, .pointer (some ⟨b, off, none⟩))) (hy : opnd (look fr) y = some (true, v)) (hc : vcells v = some vs) (h1 : vs.all Value.oneCell' = true) (hz : C.T.i t = some (z, n, m)) (hl : vs.length = n)
    (hi : getI i σ = some (b, cl cs e)) (hw : writeN off vs cs = some cs') (ho2 : Nat.ble off cs.length = true) (hs : setI i (b, cl cs' e) σ = some σ') (h : KO C ops Q rest fr σ') : KO C ops Q (o :: rest) fr σ :=
  KO.storeW hg hd ho hx hy hc h1 hz hl hi (writeN_ok (Nat.le_of_ble_eq_true ho2) hw) hs h

/-! ### Calls that turn tracked blocks -/

/-- From σ, where β is read alone: v and σ' of which R tells; all else as it was. -/
structure Tr (P : Program) (f : FuncId) (args : List Value) (β : Nat → Option Obj) (σ : Heap) (R : Value → Heap → Prop) : Prop where
  ok : FnOk P f
  run : ∀ w, Ro β σ w → Has σ w → Calls P f args.toArray w fun e w' => ∃ v σ', e = .returned v ∧ R v σ' ∧ Stp σ σ' w w'

def nil : Nat → Option Obj := fun _ => none
theorem Ro.nil (σ : Heap) (w : World) : Ro nil σ w := fun _ _ h => by cases h
def PureB (P : Program) (f : FuncId) (args : Array Value) (β : Nat → Option Obj) (v : Value) : Prop := PureR P f args (Ro β []) v
theorem Tr.pure {P : Program} {f : FuncId} {args : List Value} {v : Value} (h : Tr P f args nil [] fun u _ => u = v) : Pure P f args.toArray v :=
  ⟨h.1, fun w => (h.2 w (Ro.nil _ _) (Has.nil w)).mono fun e w' ⟨u, σ', h1, h2, h3⟩ => ⟨by rw [h1, h2], h3.below⟩⟩
theorem Tr.pureB {P : Program} {f : FuncId} {args : List Value} {v : Value} {β : Nat → Option Obj} (h : Tr P f args β [] fun u _ => u = v) : PureB P f args.toArray β v :=
  ⟨h.1, fun w hw => (h.2 w hw (Has.nil w)).mono fun e w' ⟨u, σ', h1, h2, h3⟩ => ⟨by rw [h1, h2], h3.below⟩⟩
theorem Own.ro_nil {E : Env} {σ : Heap} {w : World} (h : Own E σ w) : Ro E.β [] w := fun b o hb => ⟨(h.ro hb).1, by simp⟩
theorem Tr.mono {P : Program} {f : FuncId} {args : List Value} {β : Nat → Option Obj} {σ : Heap} {R R' : Value → Heap → Prop} (h : Tr P f args β σ R) (hr : ∀ v σ', R v σ' → R' v σ') : Tr P f args β σ R' :=
  ⟨h.1, fun w hw hh => (h.2 w hw hh).mono fun e w' ⟨u, σ', h1, h2, h3⟩ => ⟨u, σ', h1, hr _ _ h2, h3⟩⟩
theorem Tr.of_nil {P : Program} {f : FuncId} {args : List Value} {β : Nat → Option Obj} {σ : Heap} {R : Value → Heap → Prop} (h : Tr P f args nil σ R) : Tr P f args β σ R :=
  ⟨h.1, fun w _ hh => h.2 w (Ro.nil _ _) hh⟩

/-- Blocks of σ, by their places. -/
def selA : List Nat → Heap → Option Heap
  | [], _ => some []
  | i :: r, σ => match getI i σ with
    | some p => match selA r σ with
      | some q => some (p :: q)
      | none => none
    | none => none
def nodupB : List Nat → Bool
  | [] => true
  | x :: r => (r.all fun y => !(Nat.beq x y)) && nodupB r
theorem nodupB_ok : ∀ {l : List Nat}, nodupB l = true → l.Nodup
  | [], _ => by simp
  | x :: r, h => by
    simp only [nodupB, Bool.and_eq_true, List.all_eq_true, Bool.not_eq_true'] at h
    rw [List.nodup_cons]
    refine ⟨fun hm => ?_, nodupB_ok h.2⟩
    have := h.1 x hm
    simp at this
theorem getI_eq : ∀ (i : Nat) (σ : Heap), getI i σ = σ[i]?
  | _, [] => by simp [getI]
  | 0, _ :: _ => by simp [getI]
  | i + 1, _ :: r => by simp [getI, getI_eq i r]
theorem selA_mem : ∀ {l : List Nat} {σ q : Heap}, selA l σ = some q → ∀ p ∈ q, ∃ i ∈ l, σ[i]? = some p
  | [], σ, q, h, p, hp => by simp only [selA, Option.some.injEq] at h; subst h; cases hp
  | i :: r, σ, q, h, p, hp => by
    unfold selA at h
    cases h1 : getI i σ with
    | none => rw [h1] at h; cases h
    | some x =>
      rw [h1] at h
      cases h2 : selA r σ with
      | none => rw [h2] at h; cases h
      | some y =>
        rw [h2] at h
        simp only [Option.some.injEq] at h
        subst h
        rcases List.mem_cons.1 hp with rfl | hp
        · exact ⟨i, List.mem_cons_self, by rw [← getI_eq]; exact h1⟩
        · obtain ⟨j, hj, e⟩ := selA_mem h2 p hp; exact ⟨j, List.mem_cons_of_mem _ hj, e⟩
theorem key_inj {σ : Heap} (hn : (keys σ).Nodup) {i j : Nat} {p q : Nat × Obj} (hi : σ[i]? = some p) (hj : σ[j]? = some q) (e : p.1 = q.1) : i = j := by
  have h1 : (keys σ)[i]? = some p.1 := by simp [keys, hi]
  have h2 : (keys σ)[j]? = some q.1 := by simp [keys, hj]
  have hlt : i < (keys σ).length := (List.getElem?_eq_some_iff.1 h1).1
  exact (List.getElem?_inj hlt hn).1 (by rw [h1, h2, e])
theorem selA_nodup : ∀ {l : List Nat} {σ q : Heap}, selA l σ = some q → l.Nodup → (keys σ).Nodup → (keys q).Nodup
  | [], σ, q, h, _, _ => by simp only [selA, Option.some.injEq] at h; subst h; simp
  | i :: r, σ, q, h, hl, hn => by
    unfold selA at h
    cases h1 : getI i σ with
    | none => rw [h1] at h; cases h
    | some x =>
      rw [h1] at h
      cases h2 : selA r σ with
      | none => rw [h2] at h; cases h
      | some y =>
        rw [h2] at h
        simp only [Option.some.injEq] at h
        subst h
        rw [List.nodup_cons] at hl
        rw [keys_cons, List.nodup_cons]
        refine ⟨fun hm => ?_, selA_nodup h2 hl.2 hn⟩
        obtain ⟨p, hp, hpe⟩ := List.mem_map.1 hm
        obtain ⟨j, hj, hjj⟩ := selA_mem h2 p hp
        rw [getI_eq] at h1
        have := key_inj hn hjj h1 hpe
        subst this
        exact hl.1 hj
/-- σ' is some of σ's blocks. -/
def Sl (l : List Nat) (σ σ' : Heap) : Prop := selA l σ = some σ' ∧ nodupB l = true
theorem Sl.sub {l : List Nat} {σ' : Heap} {w : World} (h : Sl l σ σ') (hh : Has σ w) : Sub σ' σ :=
  ⟨fun p hp => by obtain ⟨i, _, hi⟩ := selA_mem h.1 p hp; exact List.mem_of_getElem? hi, selA_nodup h.1 (nodupB_ok h.2) hh.nodup⟩
theorem selA_append : ∀ {l r : List Nat} {σ p q : Heap}, selA l σ = some p → selA r σ = some q → selA (l ++ r) σ = some (p ++ q)
  | [], r, σ, p, q, h, hq => by simp only [selA, Option.some.injEq] at h; subst h; simpa using hq
  | i :: l, r, σ, p, q, h, hq => by
    unfold selA at h
    cases h1 : getI i σ with
    | none => rw [h1] at h; cases h
    | some x =>
      rw [h1] at h
      cases h2 : selA l σ with
      | none => rw [h2] at h; cases h
      | some y =>
        rw [h2] at h
        simp only [Option.some.injEq] at h
        subst h
        simp [selA, h1, selA_append h2 hq]

theorem KO.callT {x : Operand} {f : FuncId} {first cap : List Value} {args : Array Operand} {ts : Array TypeId} {gs : List Bool} {vs av : List Value} {R : Value → Heap → Prop} {is js : List Nat} {σf φ : Heap}
    (hg : guardOf ops (look fr) o = some true) (hd : o.dst = some d) (hn : Nat.blt d C.N = true) (ho : o.op = .call ⟨.value x, args, ts⟩) (hx : opnd (look fr) x = some (true, .func (.func f) first.toArray cap.toArray))
    (ha : opnds (look fr) args.toList = some (gs, vs)) (hi : gs.all id = true) (hT : Tr C.P f av C.E.β σf R) (hv : av = first ++ vs ++ cap) (hs : selA is σ = some σf) (hr : selA js σ = some φ) (hnd : nodupB (is ++ js) = true)
    (h : ∀ v σ', R v σ' → KO C ops Q rest ((d, true, v) :: fr) (σ' ++ φ)) : KO C ops Q (o :: rest) fr σ := by
  refine KO.eff (Post := fun v s => ∃ σ', R v σ' ∧ s = σ' ++ φ) hg hd hn (fun a w hL hO => .inr (.inr ?_)) (fun v s ⟨σ', h1, h2⟩ => by subst h2; exact h v σ' h1)
  have hsub : Sub (σf ++ φ) σ := Sl.sub ⟨selA_append hs hr, hnd⟩ hO.has
  have hh := hO.has.sub hsub
  have hhf : Has σf w := ⟨fun p hp => hh.has p (List.mem_append_left _ hp), by have := hh.nodup; rw [keys_append] at this; exact (List.nodup_append.1 this).1⟩
  refine ⟨f, _, run_call hT.1 ho (opnd_ev hL hx rfl) (opnds_ok hL ha hi), ?_⟩
  have e : (first.toArray ++ vs.toArray) ++ cap.toArray = av.toArray := by rw [hv]; simp
  rw [e]
  refine (hT.2 w (fun b o hb => ⟨(hO.ro hb).1, fun hm => (hO.ro hb).2 (hsub.keys b (by rw [keys_append]; exact List.mem_append_left _ hm))⟩) hhf).mono ?_
  rintro e w' ⟨v, σ', h1, h2, h3⟩
  have h4 := h3.frame hh
  exact ⟨v, h1, σ' ++ φ, ⟨σ', h2, rfl⟩, ⟨h4.os, h4.tape, h4.output, h4.size, fun b hb hnb => h4.old b hb (fun hm => hnb (hsub.keys b hm)), h4.has, fun b hb => (h4.new b hb).imp (hsub.keys b) id⟩⟩
theorem KO.callT0 {x : Operand} {f : FuncId} {first cap : List Value} {args : Array Operand} {ts : Array TypeId} {gs : List Bool} {vs av : List Value} {R : Value → Heap → Prop} {is js : List Nat} {σf φ : Heap}
    (hg : guardOf ops (look fr) o = some true) (hd : o.dst = none) (ho : o.op = .call ⟨.value x, args, ts⟩) (hx : opnd (look fr) x = some (true, .func (.func f) first.toArray cap.toArray))
    (ha : opnds (look fr) args.toList = some (gs, vs)) (hi : gs.all id = true) (hT : Tr C.P f av C.E.β σf R) (hv : av = first ++ vs ++ cap) (hs : selA is σ = some σf) (hr : selA js σ = some φ) (hnd : nodupB (is ++ js) = true)
    (h : ∀ v σ', R v σ' → KO C ops Q rest fr (σ' ++ φ)) : KO C ops Q (o :: rest) fr σ := by
  refine KO.eff0 (Post := fun v s => ∃ σ', R v σ' ∧ s = σ' ++ φ) hg hd (fun a w hL hO => .inr (.inr ?_)) (fun v s ⟨σ', h1, h2⟩ => by subst h2; exact h v σ' h1)
  have hsub : Sub (σf ++ φ) σ := Sl.sub ⟨selA_append hs hr, hnd⟩ hO.has
  have hh := hO.has.sub hsub
  have hhf : Has σf w := ⟨fun p hp => hh.has p (List.mem_append_left _ hp), by have := hh.nodup; rw [keys_append] at this; exact (List.nodup_append.1 this).1⟩
  refine ⟨f, _, run_call hT.1 ho (opnd_ev hL hx rfl) (opnds_ok hL ha hi), ?_⟩
  have e : (first.toArray ++ vs.toArray) ++ cap.toArray = av.toArray := by rw [hv]; simp
  rw [e]
  refine (hT.2 w (fun b o hb => ⟨(hO.ro hb).1, fun hm => (hO.ro hb).2 (hsub.keys b (by rw [keys_append]; exact List.mem_append_left _ hm))⟩) hhf).mono ?_
  rintro e w' ⟨v, σ', h1, h2, h3⟩
  have h4 := h3.frame hh
  exact ⟨v, h1, σ' ++ φ, ⟨σ', h2, rfl⟩, ⟨h4.os, h4.tape, h4.output, h4.size, fun b hb hnb => h4.old b hb (fun hm => hnb (hsub.keys b hm)), h4.has, fun b hb => (h4.new b hb).imp (hsub.keys b) id⟩⟩
end

/-! ### Control -/
def thenQ (C : Cx) (K : Fr → Heap → Prop) (Q : KQ) : KQ
  | .normal, fr, σ => K fr σ
  | e, fr, σ => Q e fr σ
def blockQ (id : Nat) (Q : KQ) : KQ
  | .exit id', fr, σ => if id' = id then Q .normal fr σ else Q (.exit id') fr σ
  | e, fr, σ => Q e fr σ

section
variable {C : Cx} {Q : KQ} {fr : Fr} {σ : Heap}

theorem KW.region {id : Nat} {l : List Oper} (h : KO C l Q l fr σ) : KW C Q (.region id l.toArray false) fr σ := fun a w hS => wpIn_region_lit (h a w hS)

theorem KW.seq {x y : Code} (h : KW C (thenQ C (KW C Q y) Q) x fr σ) : KW C Q (.seq x y) fr σ := fun a w hS =>
  wpIn_seq (wpIn_mono (h a w hS) fun e a' w' hq => by
    cases e with
    | normal => obtain ⟨fr', σ', h1, h2⟩ := hq; exact h2 a' w' h1
    | panic => exact hq
    | outgrown => exact hq
    | exit => exact hq
    | goto => exact hq
    | ret => exact hq)
theorem KW.skip (h : At Q .normal fr σ) : KW C Q .skip fr σ := fun a w hS => wpIn_skip ⟨fr, σ, hS, h⟩
theorem KW.ret (h : At Q .ret fr σ) : KW C Q .ret fr σ := fun a w hS => wpIn_ret ⟨fr, σ, hS, h⟩
theorem KW.exit {id : Nat} (h : At Q (.exit id) fr σ) : KW C Q (.exit id) fr σ := fun a w hS => wpIn_exit ⟨fr, σ, hS, h⟩
theorem KW.block {id : Nat} {c : Code} (h : KW C (blockQ id Q) c fr σ) : KW C Q (.block id c) fr σ := fun a w hS =>
  wpIn_block (wpIn_mono (h a w hS) fun e a' w' hq => by
    cases e with
    | exit id' =>
      obtain ⟨fr', σ', h1, h2⟩ := hq
      simp only [blockQ] at h2
      simp only [Exit.inBlock]
      split
      · rename_i hid; rw [if_pos hid] at h2; exact ⟨fr', σ', h1, h2⟩
      · rename_i hid; rw [if_neg hid] at h2; exact ⟨fr', σ', h1, h2⟩
    | normal => exact hq
    | panic => exact hq
    | outgrown => exact hq
    | goto => exact hq
    | ret => exact hq)
theorem KW.cond {c : Operand} {x y : Code} {b : Bool} (hc : opnd (look fr) c = some (true, .bool b)) (ht : b = true → KW C Q x fr σ) (hf : b = false → KW C Q y fr σ) : KW C Q (.cond c x y) fr σ := fun a w hS =>
  wpIn_cond_split (opnd_ev hS.fr hc rfl) (fun h => ht h a w hS) (fun h => hf h a w hS)
theorem KW.cond_true {c : Operand} {x y : Code} (hc : opnd (look fr) c = some (true, .bool true)) (h : KW C Q x fr σ) : KW C Q (.cond c x y) fr σ := fun a w hS => wpIn_cond (opnd_ev hS.fr hc rfl) (h a w hS)
theorem KW.cond_false {c : Operand} {x y : Code} (hc : opnd (look fr) c = some (true, .bool false)) (h : KW C Q y fr σ) : KW C Q (.cond c x y) fr σ := fun a w hS => wpIn_cond (opnd_ev hS.fr hc rfl) (h a w hS)

/-- What is known here serves there. -/
def Le (C : Cx) (fr : Fr) (σ : Heap) (fr' : Fr) (σ' : Heap) : Prop := ∀ a w, St C fr σ a w → St C fr' σ' a w
def FLe (fr fr' : Fr) : Prop := ∀ a, LOk (look fr) a → LOk (look fr') a
theorem FLe.refl (fr : Fr) : FLe fr fr := fun _ h => h
theorem FLe.nil (fr : Fr) : FLe fr [] := fun _ _ s g v h => by cases h
theorem FLe.cons {fr fr' : Fr} {s : Nat} {g : Bool} {v v' : Value} (h : look fr s = some (g, v)) (e : v = v') (hr : FLe fr fr') : FLe fr ((s, g, v') :: fr') := fun a ha t g' u hu => by
  unfold look at hu
  cases hb : Nat.beq s t with
  | true =>
    rw [hb] at hu
    simp only [cond_true, Option.some.injEq, Prod.mk.injEq] at hu
    obtain ⟨rfl, rfl⟩ := hu
    rw [← Nat.eq_of_beq_eq_true hb, ← e]
    exact ha s g v h
  | false => rw [hb] at hu; exact hr a ha t g' u hu
theorem Le.mk {fr' : Fr} {σ' : Heap} {l : List Nat} (hf : FLe fr fr') (hs : selA l σ = some σ') (hn : nodupB l = true) : Le C fr σ fr' σ' := fun a w h => h.weak (hf a h.fr) (Sl.sub ⟨hs, hn⟩ h.own.has)
theorem Le.same {fr' : Fr} (hf : FLe fr fr') : Le C fr σ fr' σ := fun a w h => ⟨h.n, hf a h.fr, h.own, h.defs, h.hid⟩
theorem KW.le {c : Code} {fr' : Fr} {σ' : Heap} (hl : Le C fr σ fr' σ') (h : KW C Q c fr' σ') : KW C Q c fr σ := fun a w hS => h a w (hl a w hS)
theorem KO.le {ops l : List Oper} {fr' : Fr} {σ' : Heap} (hl : Le C fr σ fr' σ') (h : KO C ops Q l fr' σ') : KO C ops Q l fr σ := fun a w hS => h a w (hl a w hS)

theorem lift_mono {Q Q' : KQ} {e : Exit} {a : Act} {w : World} (h : lift C Q e a w) (hq : ∀ e fr σ, Q e fr σ → Q' e fr σ) : lift C Q' e a w := by
  cases e <;> first | exact h.elim | (obtain ⟨fr, σ, h1, h2⟩ := h; exact ⟨fr, σ, h1, hq _ _ _ h2⟩)
theorem KW.mono {c : Code} {Q' : KQ} (h : KW C Q' c fr σ) (hq : ∀ e fr σ, Q' e fr σ → Q e fr σ) : KW C Q c fr σ := fun a w hS => wpIn_mono (h a w hS) fun _ _ _ h => lift_mono h hq

def loopQ {α : Type} (C : Cx) (I : α → Prop) (S : α → Fr × Heap) (μ : α → Nat) (x : α) (Q : KQ) : KQ
  | .normal, fr, σ => ∃ y, I y ∧ μ y < μ x ∧ Le C fr σ (S y).1 (S y).2
  | e, fr, σ => Q e fr σ
theorem KW.loop {α : Type} {c : Code} (I : α → Prop) (S : α → Fr × Heap) (μ : α → Nat) (x0 : α) (h0 : I x0) (hl : Le C fr σ (S x0).1 (S x0).2)
    (round : ∀ x, I x → KW C (loopQ C I S μ x Q) c (S x).1 (S x).2) : KW C Q (.loop c) fr σ := by
  intro a w hS b k cs hro hb hr
  have key : ∀ n x, μ x = n → I x → ∀ a w, St C (S x).1 (S x).2 a w →
      ∃ e a' w', lift C Q e a' w' ∧ ArrivesIn (Machine.fenced C.P (fnc C.r)) C.P (lone (b.atR a (.code c :: .inLoop c :: k)) cs w) b k cs e a' w' := by
    intro n
    induction n using Nat.strongRecOn with
    | _ n ih =>
      intro x hx hI a w hS
      obtain ⟨e, a₁, w₁, hq, harr⟩ := round x hI a w hS b (.inLoop c :: k) cs hro hb hr
      cases e with
      | normal =>
        obtain ⟨fr', σ', h1, y, hIy, hlt, hle⟩ := hq
        obtain ⟨e₂, a₂, w₂, hq₂, harr₂⟩ := ih (μ y) (hx ▸ hlt) y rfl hIy a₁ w₁ (hle a₁ w₁ h1)
        exact ⟨e₂, a₂, w₂, hq₂, .of_steps (StepsIn.trans harr (.one (fenced_calm hb hr rfl) stepR_inLoop)) harr₂⟩
      | exit id => exact ⟨.exit id, a₁, w₁, hq, .pass (x := .inLoop c) rfl (fun _ _ => .inl (by simp)) harr⟩
      | goto l => exact ⟨.goto l, a₁, w₁, hq, .pass (x := .inLoop c) rfl (fun _ _ => .inl (by simp)) harr⟩
      | ret => exact ⟨.ret, a₁, w₁, hq, .pass (x := .inLoop c) rfl (fun _ _ => .inl (by simp)) harr⟩
      | panic ch => exact hq.elim
      | outgrown => exact hq.elim
  obtain ⟨e, a', w', hq, harr⟩ := key _ x0 rfl h0 a w (hl a w hS)
  exact ⟨e, a', w', hq, .of_steps (.one (fenced_calm hb hr rfl) stepR_loop) harr⟩

theorem At.then_normal {K : Fr → Heap → Prop} (h : K fr σ) : At (thenQ C K Q) .normal fr σ := h
theorem At.then_ret {K : Fr → Heap → Prop} (h : At Q .ret fr σ) : At (thenQ C K Q) .ret fr σ := h
theorem At.then_exit {K : Fr → Heap → Prop} {id : Nat} (h : At Q (.exit id) fr σ) : At (thenQ C K Q) (.exit id) fr σ := h
theorem At.block_normal {id : Nat} (h : At Q .normal fr σ) : At (blockQ id Q) .normal fr σ := h
theorem At.block_ret {id : Nat} (h : At Q .ret fr σ) : At (blockQ id Q) .ret fr σ := h
theorem At.block_here {id id' : Nat} (e : Nat.beq id' id = true) (h : At Q .normal fr σ) : At (blockQ id Q) (.exit id') fr σ := by
  show (if id' = id then Q .normal fr σ else Q (.exit id') fr σ); rw [if_pos (Nat.eq_of_beq_eq_true e)]; exact h
theorem At.block_there {id id' : Nat} (e : Nat.beq id' id = false) (h : At Q (.exit id') fr σ) : At (blockQ id Q) (.exit id') fr σ := by
  show (if id' = id then Q .normal fr σ else Q (.exit id') fr σ); rw [if_neg (fun he => by subst he; simp at e)]; exact h
theorem At.loop_ret {α : Type} {I : α → Prop} {S : α → Fr × Heap} {μ : α → Nat} {x : α} (h : At Q .ret fr σ) : At (loopQ C I S μ x Q) .ret fr σ := h
theorem At.loop_exit {α : Type} {I : α → Prop} {S : α → Fr × Heap} {μ : α → Nat} {x : α} {id : Nat} (h : At Q (.exit id) fr σ) : At (loopQ C I S μ x Q) (.exit id) fr σ := h
theorem At.loop_on {α : Type} {I : α → Prop} {S : α → Fr × Heap} {μ : α → Nat} {x : α} (y : α) (hI : I y) (hμ : μ y < μ x) (hl : Le C fr σ (S y).1 (S y).2) : At (loopQ C I S μ x Q) .normal fr σ := ⟨y, hI, hμ, hl⟩

/-! ### Functions -/
def mkFr : Nat → List Value → Option Fr
  | _, [] => some []
  | n, v :: r => match mkFr (n + 1) r with
    | some fr => some ((n, true, v) :: fr)
    | none => none
theorem mkFr_ok : ∀ {l : List Value} {n : Nat} {fr : Fr} {a : Act}, mkFr n l = some fr → (∀ j v, l[j]? = some v → a.tmps[n + j]? = some v) → LOk (look fr) a
  | [], n, fr, a, h, _ => by simp only [mkFr, Option.some.injEq] at h; subst h; exact fun _ _ _ h => by cases h
  | v :: r, n, fr, a, h, ha => by
    unfold mkFr at h
    cases h1 : mkFr (n + 1) r with
    | none => rw [h1] at h; cases h
    | some f =>
      rw [h1] at h
      simp only [Option.some.injEq] at h
      subst h
      intro s g u hs
      unfold look at hs
      cases hb : Nat.beq n s with
      | true =>
        rw [hb] at hs
        simp only [cond_true, Option.some.injEq, Prod.mk.injEq] at hs
        obtain ⟨rfl, rfl⟩ := hs
        rw [← Nat.eq_of_beq_eq_true hb]
        exact ha 0 v (by simp)
      | false =>
        rw [hb] at hs
        exact mkFr_ok h1 (fun j v hj => by have := ha (j + 1) v (by simpa using hj); rwa [show n + (j + 1) = n + 1 + j by omega] at this) s g u hs

/-- What a result variable holds. -/
def ResV (C : Cx) (fr : Fr) (σ : Heap) : ResultVar → Value → Prop
  | .tmp t, v => look fr t = some (true, v)
  | .cell p t, v => ∃ b off cs e d, look fr p = some (true, .pointer (some ⟨b, off, none⟩)) ∧ (b, cl cs e) ∈ σ ∧ C.T.u t = some d ∧
      ((aggD d = false ∧ cs[off]? = some v) ∨ (aggD d = true ∧ ∃ z n m vs, C.T.i t = some (z, n, m) ∧ cutN off n cs = some vs ∧ v = .agg vs.toArray))
def ResVs (C : Cx) (fr : Fr) (σ : Heap) : List ResultVar → List Value → Prop
  | [], [] => True
  | r :: rs, v :: vs => ResV C fr σ r v ∧ ResVs C fr σ rs vs
  | _, _ => False
def resVal : List Value → Value
  | [v] => v
  | vs => .tuple vs.toArray

def resSem (tmps : Array Value) : ResultVar → Sem Value
  | .tmp t => pure (tmps.getD t undef)
  | .cell p t => do loadVar t (← asAddr (tmps.getD p undef))

theorem run_resV {r : ResultVar} {v : Value} {a : Act} {w : World} (h : ResV C fr σ r v) (hL : LOk (look fr) a) (hO : Own C.E σ w) : (resSem a.tmps r).run C.P w = .ok v w := by
  cases r with
  | tmp t =>
    have := hL t true v h
    simp [resSem, this]
  | cell p t =>
    obtain ⟨b, off, cs, e, d, h1, h2, h3, h4⟩ := h
    have hp := hL p true _ h1
    have hb := hO.has.has _ h2
    simp only [gv_true] at hp
    have e0 : a.tmps.getD p undef = .pointer (some ⟨b, off, none⟩) := by simp [hp]
    simp only [resSem, e0, asAddr]
    rcases h4 with ⟨h5, h6⟩ | ⟨h5, z, n, m, vs, h6, h7, rfl⟩
    · have h8 : w.cell? ⟨b, off, none⟩ = some v := by rw [cell_of_cl hb]; exact h6
      have := run_load1 (P := C.P) h3 h5 h8
      simpa [Instr.loadAt, Instr.sureAddr] using this
    · obtain ⟨g1, g2⟩ := cutN_ok h7
      have := run_loadN (P := C.P) (w := w) (b := b) (off := off) h3 h5 h6 g1 (fun j u hj => by rw [cell_of_cl hb]; exact g2 j u hj)
      simpa [Instr.loadAt, Instr.sureAddr] using this

theorem results_eq {fn : Func} {rs : List ResultVar} (hf : fn.results = rs.toArray) (tmps : Array Value) : results fn tmps = (do
    let vs ← rs.mapM (resSem tmps)
    pure (if h : vs.toArray.size = 1 then vs.toArray[0] else .tuple vs.toArray)) := by
  unfold results
  rw [hf]
  have e : resSem tmps = fun r => (match r with
    | .tmp t => pure (tmps.getD t undef)
    | .cell a t => do loadVar t (← asAddr (tmps.getD a undef)) : Sem Value) := funext fun r => by cases r <;> rfl
  rw [e]
  simp
  congr 2

theorem run_results {fn : Func} {rs : List ResultVar} {vs : List Value} {a : Act} {w : World} (hf : fn.results = rs.toArray) (h : ResVs C fr σ rs vs) (hL : LOk (look fr) a) (hO : Own C.E σ w) :
    (results fn a.tmps).run C.P w = .ok (resVal vs) w := by
  have key : ∀ (rs : List ResultVar) (vs : List Value), ResVs C fr σ rs vs → (rs.mapM (resSem a.tmps)).run C.P w = .ok vs w := by
    intro rs
    induction rs with
    | nil => intro vs h; cases vs with | nil => simp [List.mapM_nil] | cons => exact h.elim
    | cons r rs ih =>
      intro vs h
      cases vs with
      | nil => exact h.elim
      | cons v vs =>
        rw [List.mapM_cons]
        simp only [Sem.run_bind, run_resV h.1 hL hO, Result.andThen_ok, ih vs h.2, Sem.run_pure]
  rw [results_eq hf]
  simp only [Sem.run_bind, key rs vs h, Result.andThen_ok, Sem.run_pure]
  congr 1
  match vs with
  | [] => rfl
  | [v] => rfl
  | v :: u :: r => simp [resVal]

theorem leavesM_mono {F : Fence} {n : Nat} {P : Program} {fn : Func} {tmps : Array Value} {R R' : Ending → World → Prop} (hr : ∀ e w, R e w → R' e w) : ∀ {dl : List Nat} {w : World},
    LeavesInM F n P fn tmps R (dl.map fun r => { target := .collected r, args := #[] }) .returning w → LeavesInM F n P fn tmps R' (dl.map fun r => { target := .collected r, args := #[] }) .returning w
  | [], w, h => by obtain ⟨v, h1, h2⟩ := h; exact ⟨v, h1, hr _ _ h2⟩
  | r :: dl, w, h => by
    obtain ⟨h1, h2⟩ := h
    refine ⟨h1, .inl ?_⟩
    rcases h2 with ⟨r', w', a1, a2, a3⟩ | ⟨_, fv, cap, f, args, a1, _⟩
    · exact ⟨r', w', a1, a2, leavesM_mono hr a3⟩
    · cases a1

/-- The marks of the loops over functions are taken on the way out. -/
theorem leaves {fn : Func} {a : Act} {v : Value} (hv : ∀ w, Own C.E σ w → (results fn a.tmps).run C.P w = .ok v w) : ∀ (dl : List Nat) (w : World), Own C.E σ w → dl.Nodup →
    (∀ r ∈ dl, C.E.W0.heap.size ≤ r ∧ r ∉ keys σ ∧ w.heap[r]? = some (.deferred (some []))) →
    LeavesInM (fnc C.r) 0 C.P fn a.tmps (fun e w' => e = .returned v ∧ Own C.E σ w') (dl.map fun r => { target := .collected r, args := #[] }) .returning w
  | [], w, hO, _, _ => ⟨v, hv w hO, rfl, hO⟩
  | r :: dl, w, hO, hn, hd => by
    rw [List.nodup_cons] at hn
    obtain ⟨h1, h2, h3⟩ := hd r List.mem_cons_self
    refine ⟨by simp, .inl ⟨r, w.putObj r (.deferred none), rfl, run_takeDeferred h3, ?_⟩⟩
    refine leaves hv dl _ ?_ hn.2 (fun q hq => ?_)
    · refine ⟨hO.os, hO.tape, hO.output, by rw [World.putObj_size]; exact hO.size, fun b hb hk => ?_, ⟨fun p hp => ?_, hO.has.nodup⟩, hO.new⟩
      · rw [World.putObj_heap_other (by omega)]; exact hO.old b hb hk
      · rw [World.putObj_heap_other (fun e => h2 (by rw [← e]; exact mem_keys hp))]; exact hO.has.has p hp
    · obtain ⟨g1, g2, g3⟩ := hd q (List.mem_cons_of_mem _ hq)
      exact ⟨g1, g2, by rw [World.putObj_heap_other (fun e => hn.1 (by rw [← e]; exact hq))]; exact g3⟩

def retQ (C : Cx) (rs : List ResultVar) (R : Value → Heap → Prop) : KQ := fun e fr σ => (e = .ret ∨ e = .normal) ∧ ∃ vs, ResVs C fr σ rs vs ∧ R (resVal vs) σ

theorem At.done_ret {rs : List ResultVar} {R : Value → Heap → Prop} (vs : List Value) (h : ResVs C fr σ rs vs) (hR : R (resVal vs) σ) : At (retQ C rs R) .ret fr σ := ⟨.inl rfl, vs, h, hR⟩
theorem At.done_normal {rs : List ResultVar} {R : Value → Heap → Prop} (vs : List Value) (h : ResVs C fr σ rs vs) (hR : R (resVal vs) σ) : At (retQ C rs R) .normal fr σ := ⟨.inr rfl, vs, h, hR⟩

theorem At.ret0 {R : Value → Heap → Prop} (hR : R (.tuple #[]) σ) : At (retQ C [] R) .ret fr σ := At.done_ret [] trivial hR
theorem At.end0 {R : Value → Heap → Prop} (hR : R (.tuple #[]) σ) : At (retQ C [] R) .normal fr σ := At.done_normal [] trivial hR
theorem At.ret1 {R : Value → Heap → Prop} {t : Nat} {v : Value} (h : look fr t = some (true, v)) (hR : R v σ) : At (retQ C [.tmp t] R) .ret fr σ := At.done_ret [v] ⟨h, trivial⟩ hR
theorem At.ret2 {R : Value → Heap → Prop} {t u : Nat} {v v' : Value} (h : look fr t = some (true, v)) (h' : look fr u = some (true, v')) (hR : R (.tuple #[v, v']) σ) : At (retQ C [.tmp t, .tmp u] R) .ret fr σ := At.done_ret [v, v'] ⟨h, h', trivial⟩ hR
theorem At.ret3 {R : Value → Heap → Prop} {t u s : Nat} {v v' v'' : Value} (h : look fr t = some (true, v)) (h' : look fr u = some (true, v')) (h'' : look fr s = some (true, v'')) (hR : R (.tuple #[v, v', v'']) σ) : At (retQ C [.tmp t, .tmp u, .tmp s] R) .ret fr σ := At.done_ret [v, v', v''] ⟨h, h', h'', trivial⟩ hR
theorem ResV.cell1 {p t b off : Nat} {cs : List Value} {e : TypeId} {d : TypeDesc} {v : Value} (h : look fr p = some (true, .pointer (some ⟨b, off, none⟩))) (hm : (b, cl cs e) ∈ σ) (hu : C.T.u t = some d) (ha : aggD d = false) (hc : cs[off]? = some v) : ResV C fr σ (.cell p t) v :=
  ⟨b, off, cs, e, d, h, hm, hu, .inl ⟨ha, hc⟩⟩
theorem ResV.cellN {p t b off : Nat} {cs vs : List Value} {e : TypeId} {d : TypeDesc} {z : Value} {n m : Nat} (h : look fr p = some (true, .pointer (some ⟨b, off, none⟩))) (hm : (b, cl cs e) ∈ σ) (hu : C.T.u t = some d) (ha : aggD d = true) (hz : C.T.i t = some (z, n, m)) (hc : cutN off n cs = some vs) : ResV C fr σ (.cell p t) (.agg vs.toArray) :=
  ⟨b, off, cs, e, d, h, hm, hu, .inr ⟨ha, z, n, m, vs, hz, hc, rfl⟩⟩

theorem mkFr_same {l : List Value} {fr : Fr} (h : mkFr 0 l = some fr) : mkFr 0 l = some fr := h
theorem Tr.of_body {P : Program} (T : TT P) {f : FuncId} {fn : Func} {c : Code} {args : List Value} {β : Nat → Option Obj} {σ : Heap} {R : Value → Heap → Prop} {rs : List ResultVar} {N : Nat} {fr : Fr}
    (hf : P.funcs[f]? = some fn) (hb : fn.body = some c) (hname : (fn.name == "runtime.NumGoroutine") = false) (hr : fn.results = rs.toArray) (hn : fn.ntmps = N) (hfr : mkFr 0 args = some fr) (hle : Nat.ble args.length N = true)
    (h : ∀ E : Env, E.β = β → KW ⟨P, T, none, N, E, []⟩ (retQ ⟨P, T, none, N, E, []⟩ rs R) c fr σ) : Tr P f args β σ R := by
  refine ⟨⟨fn, hf, hname, by rw [hb]; rfl⟩, fun w hρ hh => ?_⟩
  have hsz : (args.toArray ++ Array.replicate (fn.ntmps - args.toArray.size) undef).size = N := by have := Nat.le_of_ble_eq_true hle; simp; omega
  refine callsIn_fnc.1 (callsIn_of_wp_marks (F := fnc none) (n := 0) hf hb trivial ?_)
  refine wpIn_mono (h hρ.env rfl _ w ⟨hsz, mkFr_ok hfr (fun j v hj => ?_), Own.refl hρ hh, ⟨[], rfl, by simp, by simp⟩, (fun _ hp => by cases hp)⟩) ?_
  · have hlt := (List.getElem?_eq_some_iff.1 hj).1
    rw [Nat.zero_add, Array.getElem?_append_left (by simpa using hlt)]
    simpa using hj
  · intro e a' w' hq
    have key : ∀ fr' σ', St ⟨P, T, none, N, hρ.env, []⟩ fr' σ' a' w' → (∃ vs, ResVs ⟨P, T, none, N, hρ.env, []⟩ fr' σ' rs vs ∧ R (resVal vs) σ') →
        LeavesInM (fnc none) 0 P fn a'.tmps (fun e w' => ∃ v σ', e = .returned v ∧ R v σ' ∧ Stp σ σ' w w') a'.defers .returning w' := by
      rintro fr' σ' hS ⟨vs, h1, h2⟩
      obtain ⟨dl, d1, d2, d3⟩ := hS.defs
      rw [d1]
      have := leaves (C := ⟨P, T, none, N, hρ.env, []⟩) (fun w hO => run_results hr h1 hS.fr hO) dl w' hS.own d2 d3
      exact leavesM_mono (fun e w'' ⟨e1, e2⟩ => ⟨_, σ', e1, h2, Own.stp e2⟩) this
    cases e with
    | ret => obtain ⟨fr', σ', hS, _, hR⟩ := hq; exact key fr' σ' hS hR
    | normal => obtain ⟨fr', σ', hS, _, hR⟩ := hq; exact key fr' σ' hS hR
    | exit id => obtain ⟨fr', σ', hS, h1, hR⟩ := hq; simp at h1
    | goto l => obtain ⟨fr', σ', hS, h1, hR⟩ := hq; simp at h1
    | panic => exact hq.elim
    | outgrown => exact hq.elim
end
end Go.K
