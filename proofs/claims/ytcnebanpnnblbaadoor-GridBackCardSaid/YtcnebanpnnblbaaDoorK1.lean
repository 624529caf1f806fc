/- A small program logic over the model: frames as lists of slots, a tracked heap as a list of blocks; worlds do not stand in the goals. -/
import Derived.WalkKit
import Derived.RangeFuncIn
import Derived.RangeFuncLeaves
import Derived.RangeFuncRecord
import Derived.TacticsIn
import Derived.OrdersIn
namespace Go.K
open Go Go.RowKit

/-- What conditions are turned by, as one rule. -/
theorem kBool : (∀ a b : Bool, ((a || b) = false) ↔ (a = false ∧ b = false)) ∧ (∀ a b : Bool, ((a || b) = true) = (a = true ∨ b = true)) ∧ (∀ a b : Bool, ((a && b) = true) = (a = true ∧ b = true)) ∧ (∀ a b : Bool, ((a && b) = false) ↔ (a = false ∨ b = false)) ∧ (∀ b : Bool, ((!b) = true) = (b = false)) ∧ (∀ b : Bool, ((!b) = false) = (b = true)) ∧ (∀ b : Bool, (¬ (b = true)) = (b = false)) ∧ (∀ b : Bool, (¬ (b = false)) = (b = true)) ∧ (∀ (p : Prop) [Decidable p], (decide p = true) = p) ∧ (∀ (p : Prop) [Decidable p], (decide p = false) ↔ ¬ p) ∧ (∀ b : Bool, (!!b) = b) ∧ (∀ (α : Type) [BEq α] [LawfulBEq α] (a b : α), ((a == b) = true) ↔ a = b) ∧ (∀ (α : Type) [BEq α] [LawfulBEq α] (a b : α), ((a != b) = true) ↔ a ≠ b) ∧ (∀ (α : Type) [BEq α] [LawfulBEq α] [DecidableEq α] (a b : α), (a == b) = decide (a = b)) :=
  ⟨fun _ _ => Bool.or_eq_false_iff, fun _ _ => Bool.or_eq_true _ _, fun _ _ => Bool.and_eq_true _ _, fun _ _ => Bool.and_eq_false_iff, fun _ => Bool.not_eq_true' _, fun _ => Bool.not_eq_false' _, fun _ => Bool.not_eq_true _, fun _ => Bool.not_eq_false _, fun _ _ => decide_eq_true_eq, fun _ _ => decide_eq_false_iff_not, fun _ => Bool.not_not _, fun _ _ _ _ _ => beq_iff_eq, fun _ _ _ _ _ => bne_iff_ne, fun _ _ _ _ _ _ => Bool.beq_eq_decide_eq _ _⟩

abbrev Fr := List (Nat × Bool × Value)
abbrev Heap := List (Nat × Obj)
abbrev Look := Nat → Option (Bool × Value)

def look : Fr → Look
  | [], _ => none
  | (s, g, v) :: r, t => bif Nat.beq s t then some (g, v) else look r t

/-- A value that is there under a guard alone. -/
def gv (g : Bool) (v : Value) : Value := bif g then v else undef
@[simp] theorem gv_true (v : Value) : gv true v = v := rfl
@[simp] theorem gv_false (v : Value) : gv false v = undef := rfl

def LOk (L : Look) (a : Act) : Prop := ∀ s g v, L s = some (g, v) → a.tmps[s]? = some (gv g v)

def keys (σ : Heap) : List Nat := σ.map (·.1)
@[simp] theorem keys_nil : keys [] = [] := rfl
@[simp] theorem keys_cons (p : Nat × Obj) (σ : Heap) : keys (p :: σ) = p.1 :: keys σ := rfl
@[simp] theorem keys_append (σ φ : Heap) : keys (σ ++ φ) = keys σ ++ keys φ := by simp [keys]
theorem mem_keys {p : Nat × Obj} {σ : Heap} (h : p ∈ σ) : p.1 ∈ keys σ := List.mem_map.2 ⟨p, h, rfl⟩

structure Has (σ : Heap) (w : World) : Prop where
  has : ∀ p ∈ σ, w.heap[p.1]? = some p.2
  nodup : (keys σ).Nodup

/-- From w to w', σ having become σ': nothing else that was there has turned. -/
structure Stp (σ σ' : Heap) (w w' : World) : Prop where
  os : w'.os = w.os
  tape : w'.tape = w.tape
  output : w'.output = w.output
  size : w.heap.size ≤ w'.heap.size
  old : ∀ b, b < w.heap.size → b ∉ keys σ → w'.heap[b]? = w.heap[b]?
  has : Has σ' w'
  new : ∀ b ∈ keys σ', b ∈ keys σ ∨ w.heap.size ≤ b

/-- The world at the beginning; the blocks that may turn; what is read alone. -/
structure Env where
  W0 : World
  K : Nat → Prop
  β : Nat → Option Obj
  hβ : ∀ b o, β b = some o → W0.heap[b]? = some o ∧ ¬ K b

structure Own (E : Env) (σ : Heap) (w : World) : Prop where
  os : w.os = E.W0.os
  tape : w.tape = E.W0.tape
  output : w.output = E.W0.output
  size : E.W0.heap.size ≤ w.heap.size
  old : ∀ b, b < E.W0.heap.size → ¬ E.K b → w.heap[b]? = E.W0.heap[b]?
  has : Has σ w
  new : ∀ b ∈ keys σ, E.K b ∨ E.W0.heap.size ≤ b

theorem lt_of_get {w : World} {b : Nat} {o : Obj} (h : w.heap[b]? = some o) : b < w.heap.size := by
  rcases Nat.lt_or_ge b w.heap.size with h' | h'
  · exact h'
  · simp [Array.getElem?_eq_none h'] at h

theorem Has.lt {σ : Heap} {w : World} (h : Has σ w) : ∀ b ∈ keys σ, b < w.heap.size := fun b hb => by
  obtain ⟨p, hp, rfl⟩ := List.mem_map.1 hb
  exact lt_of_get (h.has p hp)

theorem Has.nil (w : World) : Has [] w := ⟨(fun _ h => by cases h), by simp⟩

theorem Stp.refl {σ : Heap} {w : World} (h : Has σ w) : Stp σ σ w w := ⟨rfl, rfl, rfl, Nat.le_refl _, fun _ _ _ => rfl, h, fun _ hb => .inl hb⟩

theorem Stp.trans {σ₁ σ₂ σ₃ : Heap} {w₁ w₂ w₃ : World} (h : Stp σ₁ σ₂ w₁ w₂) (k : Stp σ₂ σ₃ w₂ w₃) : Stp σ₁ σ₃ w₁ w₃ where
  os := k.os.trans h.os
  tape := k.tape.trans h.tape
  output := k.output.trans h.output
  size := Nat.le_trans h.size k.size
  old := fun b hb hn => by
    have hb2 : b < w₂.heap.size := Nat.lt_of_lt_of_le hb h.size
    rw [k.old b hb2 (fun hm => (h.new b hm).elim hn (fun hle => by omega)), h.old b hb hn]
  has := k.has
  new := fun b hb => by
    rcases k.new b hb with h1 | h1
    · exact h.new b h1
    · exact .inr (Nat.le_trans h.size h1)

theorem Own.step {E : Env} {σ σ' : Heap} {w w' : World} (h : Own E σ w) (k : Stp σ σ' w w') : Own E σ' w' where
  os := k.os.trans h.os
  tape := k.tape.trans h.tape
  output := k.output.trans h.output
  size := Nat.le_trans h.size k.size
  old := fun b hb hn => by
    rw [k.old b (Nat.lt_of_lt_of_le hb h.size) (fun hm => (h.new b hm).elim hn (fun hle => by omega)), h.old b hb hn]
  has := k.has
  new := fun b hb => by
    rcases k.new b hb with h1 | h1
    · exact h.new b h1
    · exact .inr (Nat.le_trans h.size h1)

theorem Stp.of_below {w w' : World} {σ : Heap} (h : Below w.heap.size w w') (hh : Has σ w) : Stp σ σ w w' where
  os := h.os
  tape := h.tape
  output := h.output
  size := h.size
  old := fun b hb _ => h.block b hb
  has := ⟨fun p hp => by rw [h.block p.1 (lt_of_get (hh.has p hp))]; exact hh.has p hp, hh.nodup⟩
  new := fun _ hb => .inl hb

theorem Stp.below {w w' : World} {σ : Heap} (h : Stp [] σ w w') : Below w.heap.size w w' :=
  ⟨h.os, h.tape, h.output, h.size, fun b hb => h.old b hb (by simp)⟩

/-- The frame: what lies beside σ. -/
theorem Stp.frame {σ σ' φ : Heap} {w w' : World} (h : Stp σ σ' w w') (hh : Has (σ ++ φ) w) : Stp (σ ++ φ) (σ' ++ φ) w w' where
  os := h.os
  tape := h.tape
  output := h.output
  size := h.size
  old := fun b hb hn => h.old b hb (fun hm => hn (by simp [hm]))
  has := by
    have hnd := hh.nodup
    rw [keys_append] at hnd
    obtain ⟨_, n2, n3⟩ := List.nodup_append.1 hnd
    refine ⟨fun p hp => ?_, ?_⟩
    · rcases List.mem_append.1 hp with hp | hp
      · exact h.has.has p hp
      · have h1 := hh.has p (List.mem_append_right _ hp)
        rw [h.old p.1 (lt_of_get h1) (fun hm => n3 p.1 hm p.1 (mem_keys hp) rfl)]
        exact h1
    · rw [keys_append]
      refine List.nodup_append.2 ⟨h.has.nodup, n2, fun x hx y hy => ?_⟩
      intro e
      subst e
      rcases h.new x hx with h1 | h1
      · exact n3 x h1 x hy rfl
      · obtain ⟨p, hp, hpe⟩ := List.mem_map.1 hy
        have h2 := lt_of_get (hh.has p (List.mem_append_right _ hp))
        have h3 : p.1 = x := hpe
        omega
  new := fun b hb => by
    rw [keys_append] at hb
    rcases List.mem_append.1 hb with hb | hb
    · exact (h.new b hb).imp (fun h1 => by simp [h1]) id
    · exact .inl (by simp [hb])

/-- The same blocks in another order, or some of them alone. -/
def Sub (σ' σ : Heap) : Prop := (∀ p ∈ σ', p ∈ σ) ∧ (keys σ').Nodup

theorem Sub.keys {σ' σ : Heap} (h : Sub σ' σ) : ∀ b ∈ keys σ', b ∈ keys σ := fun b hb => by
  obtain ⟨p, hp, rfl⟩ := List.mem_map.1 hb
  exact mem_keys (h.1 p hp)

theorem Has.sub {σ σ' : Heap} {w : World} (h : Has σ w) (hs : Sub σ' σ) : Has σ' w := ⟨fun p hp => h.has p (hs.1 p hp), hs.2⟩

theorem Stp.sub {σ σ₁ σ₂ : Heap} {w w' : World} (h : Stp σ σ₁ w w') (hs : Sub σ₂ σ₁) : Stp σ σ₂ w w' :=
  ⟨h.os, h.tape, h.output, h.size, h.old, h.has.sub hs, fun b hb => h.new b (hs.keys b hb)⟩

theorem Own.sub {E : Env} {σ σ' : Heap} {w : World} (h : Own E σ w) (hs : Sub σ' σ) : Own E σ' w :=
  ⟨h.os, h.tape, h.output, h.size, h.old, h.has.sub hs, fun b hb => h.new b (hs.keys b hb)⟩

/-- What is read alone lies as it lay. -/
theorem Own.ro {E : Env} {σ : Heap} {w : World} (h : Own E σ w) {b : Nat} {o : Obj} (hb : E.β b = some o) : w.heap[b]? = some o ∧ b ∉ keys σ := by
  obtain ⟨h1, h2⟩ := E.hβ b o hb
  have h3 := lt_of_get h1
  exact ⟨by rw [h.old b h3 h2]; exact h1, fun hm => (h.new b hm).elim h2 (fun hle => by omega)⟩

/-- What a triple asks of the world at its beginning. -/
def Ro (β : Nat → Option Obj) (σ : Heap) (w : World) : Prop := ∀ b o, β b = some o → w.heap[b]? = some o ∧ b ∉ keys σ
def Ro.env {β : Nat → Option Obj} {σ : Heap} {w : World} (h : Ro β σ w) : Env := ⟨w, (· ∈ keys σ), β, h⟩
theorem Own.refl {β : Nat → Option Obj} {w : World} {σ : Heap} (hr : Ro β σ w) (h : Has σ w) : Own hr.env σ w := ⟨rfl, rfl, rfl, Nat.le_refl _, fun _ _ _ => rfl, h, fun _ hb => .inl hb⟩

theorem Own.stp {β : Nat → Option Obj} {w w' : World} {σ σ' : Heap} {hr : Ro β σ w} (h : Own hr.env σ' w') : Stp σ σ' w w' := ⟨h.os, h.tape, h.output, h.size, h.old, h.has, h.new⟩

/-! ### The fence, the context, the state -/

def fnc (r : Option Nat) : Fence := { fn := fun _ => True, depth := none, alive := false, round := r }

theorem callsIn_fnc {r : Option Nat} {n : Nat} {P : Program} {f : FuncId} {args : Array Value} {w : World} {R : Ending → World → Prop} : CallsIn (fnc r) n P f args w R ↔ Calls P f args w R :=
  ⟨fun h => callsIn_wide.1 (show CallsIn Fence.wide n P f args w R from h), fun h => (show CallsIn Fence.wide n P f args w R from callsIn_wide.2 h)⟩

/-- Rows of the table of types. -/
structure UEntry (P : Program) where
  t : Nat
  d : TypeDesc
  ok : P.underlying t = some d
structure IEntry (P : Program) where
  t : Nat
  zero : Value
  size : Nat
  bytes : Nat
  ok : (P.info? t).map (fun i => (i.zero, i.size, i.bytes)) = some (some zero, size, bytes)
/-- A struct whose values are compared field by field. -/
structure EEntry (P : Program) where
  t : Nat
  fs : Array Field
  u : P.underlying t = some (.struct fs)
  g : P.eqGuardType P.depth t = false
  s : P.stoodInHeld t = false
  nm : (fs.toList.all fun f => f.name != "_") = true
structure TT (P : Program) where
  und : List (UEntry P)
  inf : List (IEntry P)
  eqs : List (EEntry P)
  mixed : P.follows .mixedOrders = true

def undIn {P : Program} : List (UEntry P) → Nat → Option TypeDesc
  | [], _ => none
  | ⟨t', d, _⟩ :: r, t => bif Nat.beq t' t then some d else undIn r t
def infIn {P : Program} : List (IEntry P) → Nat → Option (Value × Nat × Nat)
  | [], _ => none
  | ⟨t', z, n, m, _⟩ :: r, t => bif Nat.beq t' t then some (z, n, m) else infIn r t
def eqIn {P : Program} : List (EEntry P) → Nat → Option (Array Field)
  | [], _ => none
  | ⟨t', fs, _, _, _, _⟩ :: r, t => bif Nat.beq t' t then some fs else eqIn r t
def TT.e {P : Program} (T : TT P) (t : Nat) : Option (Array Field) := eqIn T.eqs t
theorem eqIn_ok {P : Program} : ∀ (l : List (EEntry P)) (t : Nat) (fs : Array Field), eqIn l t = some fs → ∃ e ∈ l, e.t = t ∧ e.fs = fs
  | [], _, _, h => by cases h
  | e :: r, t, fs, h => by
    unfold eqIn at h
    cases hb : Nat.beq e.t t with
    | true => rw [hb] at h; simp only [cond_true, Option.some.injEq] at h; exact ⟨e, List.mem_cons_self, Nat.eq_of_beq_eq_true hb, h⟩
    | false => rw [hb] at h; obtain ⟨e', h1, h2⟩ := eqIn_ok r t fs h; exact ⟨e', List.mem_cons_of_mem _ h1, h2⟩
def TT.u {P : Program} (T : TT P) (t : Nat) : Option TypeDesc := undIn T.und t
def TT.i {P : Program} (T : TT P) (t : Nat) : Option (Value × Nat × Nat) := infIn T.inf t

theorem undIn_ok {P : Program} : ∀ (l : List (UEntry P)) (t : Nat) (d : TypeDesc), undIn l t = some d → P.underlying t = some d
  | [], _, _, h => by cases h
  | e :: r, t, d, h => by
    unfold undIn at h
    cases hb : Nat.beq e.t t with
    | true => rw [hb] at h; simp only [cond_true, Option.some.injEq] at h; rw [← Nat.eq_of_beq_eq_true hb, ← h]; exact e.ok
    | false => rw [hb] at h; exact undIn_ok r t d h
theorem infIn_ok {P : Program} : ∀ (l : List (IEntry P)) (t : Nat) (z : Value) (s b : Nat), infIn l t = some (z, s, b) → ∃ i, P.info? t = some i ∧ i.zero = some z ∧ i.size = s ∧ i.bytes = b
  | [], _, _, _, _, h => by cases h
  | e :: r, t, z, s, b, h => by
    unfold infIn at h
    cases hb : Nat.beq e.t t with
    | true =>
      rw [hb] at h
      simp only [cond_true, Option.some.injEq, Prod.mk.injEq] at h
      have ho := e.ok
      rw [Nat.eq_of_beq_eq_true hb] at ho
      cases hi : P.info? t with
      | none => rw [hi] at ho; cases ho
      | some i =>
        rw [hi] at ho
        simp only [Option.map_some, Option.some.injEq, Prod.mk.injEq] at ho
        exact ⟨i, rfl, by rw [ho.1, h.1], by rw [ho.2.1, h.2.1], by rw [ho.2.2, h.2.2]⟩
    | false => rw [hb] at h; exact infIn_ok r t z s b h
theorem TT.u_ok {P : Program} {T : TT P} {t : Nat} {d : TypeDesc} (h : T.u t = some d) : P.underlying t = some d := undIn_ok _ _ _ h
theorem TT.i_ok {P : Program} {T : TT P} {t : Nat} {z : Value} {s b : Nat} (h : T.i t = some (z, s, b)) : ∃ i, P.info? t = some i ∧ i.zero = some z ∧ i.size = s ∧ i.bytes = b := infIn_ok _ _ _ _ _ h

structure Cx where
  P : Program
  T : TT P
  r : Option Nat
  N : Nat
  E : Env
  H : Heap := []

def Defs (C : Cx) (σ : Heap) (a : Act) (w : World) : Prop :=
  ∃ dl : List Nat, a.defers = dl.map (fun r => { target := .collected r, args := #[] }) ∧ dl.Nodup ∧
    ∀ r ∈ dl, C.E.W0.heap.size ≤ r ∧ r ∉ keys σ ∧ w.heap[r]? = some (.deferred (some []))
/-- Blocks that are kept out of sight. -/
def Hid (C : Cx) (σ : Heap) (w : World) : Prop := ∀ p ∈ C.H, C.E.W0.heap.size ≤ p.1 ∧ p.1 ∉ keys σ ∧ w.heap[p.1]? = some p.2

structure St (C : Cx) (fr : Fr) (σ : Heap) (a : Act) (w : World) : Prop where
  n : a.tmps.size = C.N
  fr : LOk (look fr) a
  own : Own C.E σ w
  defs : Defs C σ a w
  hid : Hid C σ w

theorem Defs.step {C : Cx} {σ σ' : Heap} {a : Act} {w w' : World} (h : Defs C σ a w) (k : Stp σ σ' w w') : Defs C σ' a w' := by
  obtain ⟨dl, h1, h2, h3⟩ := h
  refine ⟨dl, h1, h2, fun r hr => ?_⟩
  obtain ⟨a1, a2, a3⟩ := h3 r hr
  have hlt := lt_of_get a3
  exact ⟨a1, fun hm => (k.new r hm).elim a2 (fun hle => by omega), by rw [k.old r hlt a2]; exact a3⟩

theorem Hid.step {C : Cx} {σ σ' : Heap} {w w' : World} (h : Hid C σ w) (k : Stp σ σ' w w') : Hid C σ' w' := fun p hp => by
  obtain ⟨a1, a2, a3⟩ := h p hp
  have hlt := lt_of_get a3
  exact ⟨a1, fun hm => (k.new p.1 hm).elim a2 (fun hle => by omega), by rw [k.old p.1 hlt a2]; exact a3⟩

theorem St.step {C : Cx} {fr : Fr} {σ σ' : Heap} {a : Act} {w w' : World} (h : St C fr σ a w) (k : Stp σ σ' w w') : St C fr σ' a w' :=
  ⟨h.n, h.fr, h.own.step k, h.defs.step k, h.hid.step k⟩

theorem St.weak {C : Cx} {fr fr' : Fr} {σ σ' : Heap} {a : Act} {w : World} (h : St C fr σ a w) (hf : LOk (look fr') a) (hs : Sub σ' σ) : St C fr' σ' a w :=
  ⟨h.n, hf, h.own.sub hs, by
    obtain ⟨dl, h1, h2, h3⟩ := h.defs
    exact ⟨dl, h1, h2, fun r hr => ⟨(h3 r hr).1, fun hm => (h3 r hr).2.1 (hs.keys r hm), (h3 r hr).2.2⟩⟩, fun p hp => ⟨(h.hid p hp).1, fun hm => (h.hid p hp).2.1 (hs.keys p.1 hm), (h.hid p hp).2.2⟩⟩

theorem put_size (a : Act) (d : Option Nat) (v : Value) : (a.put d v).tmps.size = a.tmps.size := by cases d <;> simp [Act.put]

theorem LOk.put {fr : Fr} {a : Act} {d : Nat} {g : Bool} {v : Value} (h : LOk (look fr) a) (hd : d < a.tmps.size) : LOk (look ((d, g, v) :: fr)) (a.put (some d) (gv g v)) := by
  intro s g' v' hs
  unfold look at hs
  cases hb : Nat.beq d s with
  | true =>
    rw [hb] at hs
    have e := Nat.eq_of_beq_eq_true hb
    subst e
    simp only [cond_true, Option.some.injEq, Prod.mk.injEq] at hs
    obtain ⟨rfl, rfl⟩ := hs
    simp [Act.put, hd]
  | false =>
    rw [hb] at hs
    have hne : d ≠ s := fun e => by subst e; simp at hb
    have := h s g' v' hs
    simp only [Act.put, Array.getElem?_setIfInBounds_ne hne]
    exact this

theorem St.put {C : Cx} {fr : Fr} {σ : Heap} {a : Act} {w : World} {d : Nat} {g : Bool} {v : Value} (h : St C fr σ a w) (hd : Nat.blt d C.N = true) : St C ((d, g, v) :: fr) σ (a.put (some d) (gv g v)) w :=
  ⟨by rw [put_size]; exact h.n, h.fr.put (by rw [h.n]; exact Nat.le_of_ble_eq_true hd), h.own, h.defs, h.hid⟩

/-! ### Operands and guards -/

def opnd (L : Look) : Operand → Option (Bool × Value)
  | .tmp t => L t
  | .const v => some (true, v)
  | .global g => some (true, .pointer (some ⟨g, 0, none⟩))
  | .func f => some (true, .func (.func f) #[] #[])

theorem opnd_ok {L : Look} {a : Act} {x : Operand} {g : Bool} {v : Value} (h : LOk L a) (hx : opnd L x = some (g, v)) : a.eval x = gv g v := by
  cases x with
  | tmp t => simp only [opnd] at hx; simp [Act.eval, h t g v hx]
  | const c => simp only [opnd, Option.some.injEq, Prod.mk.injEq] at hx; obtain ⟨rfl, rfl⟩ := hx; rfl
  | global c => simp only [opnd, Option.some.injEq, Prod.mk.injEq] at hx; obtain ⟨rfl, rfl⟩ := hx; rfl
  | func c => simp only [opnd, Option.some.injEq, Prod.mk.injEq] at hx; obtain ⟨rfl, rfl⟩ := hx; rfl

theorem opnd_ev {L : Look} {a : Act} {x : Operand} {g : Bool} {v : Value} (h : LOk L a) (hx : opnd L x = some (g, v)) (hg : g = true) : a.eval x = v := by
  rw [opnd_ok h hx, hg]; rfl

/-- The values of a row of operands, and the guards under which they are there. -/
def opnds (L : Look) : List Operand → Option (List Bool × List Value)
  | [] => some ([], [])
  | x :: r =>
    match opnd L x with
    | some (g, v) => match opnds L r with
      | some (gs, vs) => some (g :: gs, v :: vs)
      | none => none
    | none => none

theorem opnds_ok {L : Look} {a : Act} (h : LOk L a) : ∀ {xs : List Operand} {gs : List Bool} {vs : List Value}, opnds L xs = some (gs, vs) → gs.all id = true → xs.map a.eval = vs
  | [], gs, vs, hx, _ => by simp only [opnds, Option.some.injEq, Prod.mk.injEq] at hx; simp [← hx.2]
  | x :: r, gs, vs, hx, hg => by
    unfold opnds at hx
    cases hx1 : opnd L x with
    | none => rw [hx1] at hx; cases hx
    | some p =>
      obtain ⟨g, v⟩ := p
      rw [hx1] at hx
      cases hx2 : opnds L r with
      | none => rw [hx2] at hx; cases hx
      | some q =>
        obtain ⟨gs', vs'⟩ := q
        rw [hx2] at hx
        simp only [Option.some.injEq, Prod.mk.injEq] at hx
        obtain ⟨rfl, rfl⟩ := hx
        simp only [List.all_cons, Bool.and_eq_true, id_eq] at hg
        rw [List.map_cons, opnd_ev h hx1 hg.1, opnds_ok h hx2 hg.2]

def nth {α : Type} : List α → Nat → Option α
  | [], _ => none
  | x :: r, n => match n with
    | 0 => some x
    | n + 1 => nth r n
theorem nth_eq {α : Type} : ∀ (l : List α) (n : Nat), nth l n = l[n]?
  | [], n => by simp [nth]
  | x :: r, 0 => by simp [nth]
  | x :: r, n + 1 => by simp [nth, nth_eq r n]

def guardOf (ops : List Oper) (L : Look) (o : Oper) : Option Bool :=
  match o.guard with
  | none => some true
  | some (j, want) =>
    match nth ops j with
    | none => none
    | some oj =>
      match oj.dst with
      | none => none
      | some d =>
        match L d with
        | some (true, .bool b) => (match want with
          | true => some b
          | false => some (not b))
        | _ => none
/-- A guard within a guard. -/
def guardIn (ops : List Oper) (L : Look) (o : Oper) : Option Bool :=
  match o.guard with
  | none => none
  | some (j, want) =>
    match nth ops j with
    | none => none
    | some oj =>
      match oj.dst with
      | none => none
      | some d =>
        match L d with
        | some (g0, .bool b) => (match want with
          | true => some (g0 && b)
          | false => some (g0 && not b))
        | some (false, _) => some false
        | _ => none

theorem wanted_of {ops : List Oper} {L : Look} {o : Oper} {a : Act} {j d : Nat} {want g0 b : Bool} {oj : Oper} (h : LOk L a) (ho : o.guard = some (j, want)) (hj : nth ops j = some oj) (hd : oj.dst = some d) (hL : L d = some (g0, .bool b)) :
    Region.wanted o (yielded ops.toArray a.tmps) = (g0 && (if want then b else not b)) := by
  unfold Region.wanted
  rw [ho]
  rw [nth_eq] at hj
  have hs := h d g0 _ hL
  have hy : yielded ops.toArray a.tmps j = if g0 then some b else none := by
    unfold yielded
    cases g0 <;> simp [hj, hd, hs, undef]
  simp only [hy]
  cases g0 <;> cases want <;> cases b <;> rfl

theorem wanted_off {ops : List Oper} {L : Look} {o : Oper} {a : Act} {j d : Nat} {want : Bool} {v : Value} {oj : Oper} (h : LOk L a) (ho : o.guard = some (j, want)) (hj : nth ops j = some oj) (hd : oj.dst = some d) (hL : L d = some (false, v)) :
    Region.wanted o (yielded ops.toArray a.tmps) = false := by
  have h2 : LOk (fun s => if s = d then some (false, .bool true) else L s) a := fun s g u hs => by
    dsimp only at hs
    split at hs
    · rename_i e
      subst e
      simp only [Option.some.injEq, Prod.mk.injEq] at hs
      obtain ⟨rfl, rfl⟩ := hs
      exact (show a.tmps[s]? = some (gv false (.bool true)) from h s false v hL)
    · exact h s g u hs
  have := wanted_of h2 ho hj hd (by simp; exact ⟨rfl, rfl⟩)
  simpa using this
theorem guardOf_ok {ops : List Oper} {L : Look} {o : Oper} {a : Act} {g : Bool} (h : LOk L a) (hg : guardOf ops L o = some g) : Region.wanted o (yielded ops.toArray a.tmps) = g := by
  unfold guardOf at hg
  split at hg
  · rename_i ho; unfold Region.wanted; rw [ho]; simpa using hg
  · rename_i j want ho
    split at hg
    · cases hg
    · rename_i oj hj
      split at hg
      · cases hg
      · rename_i d hd
        split at hg
        · rename_i b hL
          rw [wanted_of h ho hj hd hL]
          cases want <;> simpa using hg
        · cases hg
theorem guardIn_ok {ops : List Oper} {L : Look} {o : Oper} {a : Act} {g : Bool} (h : LOk L a) (hg : guardIn ops L o = some g) : Region.wanted o (yielded ops.toArray a.tmps) = g := by
  unfold guardIn at hg
  split at hg
  · cases hg
  · rename_i j want ho
    split at hg
    · cases hg
    · rename_i oj hj
      split at hg
      · cases hg
      · rename_i d hd
        split at hg
        · rename_i g0 b hL
          rw [wanted_of h ho hj hd hL]
          cases want <;> simpa using hg
        · rename_i v hL
          simp only [Option.some.injEq] at hg
          subst hg
          rename_i hL _
          exact wanted_off h ho hj hd (by assumption)
        · cases hg

end Go.K
