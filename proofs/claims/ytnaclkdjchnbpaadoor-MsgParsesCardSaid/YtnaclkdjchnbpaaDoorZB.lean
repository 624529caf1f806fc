/- Part 2 of the texts: The program logic, eighth part: ranges over functions; The program logic, ninth part: slices made, cut, copied; The program logic, tenth part: statements whose order is ope; The frame of a law: its arguments opened; what it asks of th; A law's arguments, whatever their types: what they hold, rea; The program logic, eleventh part: slices that can be read, w -/
import Derived.Laws.MakeOwn
import Derived.Laws.CopyRow
import Derived.Laws.IdiomCopy
import Derived.ProofKit
import Derived.Lib.SmallJoins
import Derived.SizedLaws
import Derived.Laws.BitsLemmas
import Derived.Scope
import Derived.Lib.AppendZeros
import Derived.Test.YtnaclkdjchnbpaaDoorZA
section
namespace Go.K
open Go Go.RowKit

/-- What a call of yield does to the world: one round of the loop l. -/
def Yl (P : Program) (l : Nat) (args : List Value) (w : World) (R : Value → World → Prop) : Prop :=
  ∃ fn tmps assign body, (Instr.yield l args.toArray).run P w = .ok (.round l fn tmps assign body) w ∧ ∀ r, RoundIn (fnc r) 0 P l fn tmps assign body w fun e w' => ∃ v, e = .returned v ∧ R v w'

structure YTr (P : Program) (l : Nat) (args : List Value) (β : Nat → Option Obj) (σ : Heap) (R : Value → Heap → Prop) : Prop where
  run : ∀ w, Ro β σ w → Has σ w → Yl P l args w fun v w' => ∃ σ', R v σ' ∧ Stp σ σ' w w'

section
variable {C : Cx} {ops : List Oper} {Q : KQ} {o : Oper} {rest : List Oper} {fr : Fr} {σ : Heap} {d : Nat}

theorem Yl.wpIn {P : Program} {r : Option Nat} {o : Oper} {a : Act} {w : World} {l : Nat} {x : Operand} {args : Array Operand} {ts : Array TypeId} {vs : List Value} {R : Value → World → Prop} {K : Act → World → Prop} {Q : Exit → Act → World → Prop}
    (ho : o.op = .call ⟨.value x, args, ts⟩) (hx : a.eval x = .func (.yield l) #[] #[]) (ha : args.toList.map a.eval = vs) (h : Yl P l vs w R) (hk : ∀ v w', R v w' → K (a.put o.dst v) w') : o.wpIn (fnc r) 0 P a w K Q := by
  obtain ⟨fn, tmps, assign, body, h1, h2⟩ := h
  have e1 : args.map a.eval = vs.toArray := by apply Array.ext'; rw [← ha]; simp
  have hr : (execOp a.eval o).run P w = .ok (.round l fn tmps assign body) w := by
    simp only [execOp, ho, resolve, e1, hx, Deferred.ofValue, Sem.run_bind, Sem.run_pure, Result.andThen_ok, invoke]
    simpa using h1
  refine ⟨fun _ _ => trivial, ?_⟩
  rw [Oper.semAt_plain (fnc r) _ _ (not_defer hr (by simp)), hr]
  refine ⟨(fun h => by cases h), (h2 r).mono ?_⟩
  rintro e w' ⟨v, rfl, h3⟩
  exact hk v w' h3

/-- The generator's side. -/
theorem KO.yield {x : Operand} {l : Nat} {args : Array Operand} {ts : Array TypeId} {gs : List Bool} {vs : List Value} {R : Value → Heap → Prop} (σJ φ : Heap) (hg : guardOf ops (look fr) o = some true) (hd : o.dst = some d) (hn : Nat.blt d C.N = true) (ho : o.op = .call ⟨.value x, args, ts⟩)
    (hx : opnd (look fr) x = some (true, .func (.yield l) #[] #[])) (ha : opnds (look fr) args.toList = some (gs, vs)) (hi : gs.all id = true) (hσ : σ = σJ ++ φ) (hY : YTr C.P l vs C.E.β σJ R)
    (h : ∀ v σ', R v σ' → KO C ops Q rest ((d, true, v) :: fr) (σ' ++ φ)) : KO C ops Q (o :: rest) fr σ := by
  subst hσ
  intro a w hS
  unfold wpListIn
  rw [guardOf_ok hS.fr hg, if_pos rfl]
  have hO := hS.own
  have hJ : Has σJ w := ⟨fun p hp => hO.has.has p (List.mem_append_left _ hp), by have := hO.has.nodup; rw [keys_append] at this; exact (List.nodup_append.1 this).1⟩
  have hro : Ro C.E.β σJ w := fun b ob hb => ⟨(hO.ro hb).1, fun hm => (hO.ro hb).2 (by rw [keys_append]; exact List.mem_append_left _ hm)⟩
  refine Yl.wpIn (P := C.P) (R := fun v w' => ∃ σ', R v σ' ∧ Stp σJ σ' w w') ho (opnd_ev hS.fr hx rfl) (opnds_ok hS.fr ha hi) (hY.run w hro hJ) ?_
  rintro v w' ⟨σ', h1, h2⟩
  rw [hd]
  exact h v σ' h1 _ _ ((hS.put (g := true) (v := v) hn).step (h2.frame hO.has))

/-! ### The caller's side -/
/-- A function that tells items, one by one, until it is told to stop: its own memory is σc. -/
structure Iter (P : Program) (f : FuncId) (first cap : List Value) (β : Nat → Option Obj) (σc : Heap) (items : List (List Value)) : Prop where
  ok : FnOk P f
  run : ∀ (l : Nat) (β' : Nat → Option Obj) (J : Nat → Heap → Prop) (Jx : Heap → Prop), (∀ b o, β b = some o → β' b = some o) →
    (∀ j x σ, items[j]? = some x → J j σ → YTr P l x β' σ (fun v σ' => (v = .bool true ∧ J (j + 1) σ') ∨ (v = .bool false ∧ Jx σ'))) →
    ∀ σ, J 0 σ → Tr P f (first ++ [.func (.yield l) #[] #[]] ++ cap) β' (σ ++ σc) (fun v σ' => v = .tuple #[] ∧ ∃ σ'', σ' = σ'' ++ σc ∧ (J items.length σ'' ∨ Jx σ''))

theorem Ro.mono {β β' : Nat → Option Obj} {w : World} (hb : ∀ b o, β b = some o → β' b = some o) (h : Ro β' σ w) : Ro β σ w := fun b o hbo => h b o (hb b o hbo)
theorem Tr.up {P : Program} {f : FuncId} {args : List Value} {β β' : Nat → Option Obj} {R : Value → Heap → Prop} (hb : ∀ b o, β b = some o → β' b = some o) (h : Tr P f args β σ R) : Tr P f args β' σ R :=
  ⟨h.1, fun w hw hh => h.2 w (Ro.mono hb hw) hh⟩

def jmp : Exit → Option Code
  | .ret => some .ret
  | .exit id => some (.exit id)
  | .goto t => some (.goto t)
  | _ => none

/-- What a round leaves behind. -/
def roundQ (K : Nat → Heap → Prop) (Kx : Exit → Heap → Prop) (j : Nat) : KQ
  | .normal, _, σ => ∃ τ, List.Sublist τ σ ∧ K (j + 1) τ
  | e, _, σ => (jmp e).isSome = true ∧ ∃ τ, List.Sublist τ σ ∧ Kx e τ
theorem At.round_normal {K : Nat → Heap → Prop} {Kx : Exit → Heap → Prop} {j : Nat} (τ : Heap) (hs : List.Sublist τ σ) (h : K (j + 1) τ) : At (roundQ K Kx j) .normal fr σ := ⟨τ, hs, h⟩
theorem At.round_ret {K : Nat → Heap → Prop} {Kx : Exit → Heap → Prop} {j : Nat} (τ : Heap) (hs : List.Sublist τ σ) (h : Kx .ret τ) : At (roundQ K Kx j) .ret fr σ := ⟨rfl, τ, hs, h⟩
theorem At.round_exit {K : Nat → Heap → Prop} {Kx : Exit → Heap → Prop} {j id : Nat} (τ : Heap) (hs : List.Sublist τ σ) (h : Kx (.exit id) τ) : At (roundQ K Kx j) (.exit id) fr σ := ⟨rfl, τ, hs, h⟩
theorem Sub.of_sublist {σ' : Heap} {w : World} (h : List.Sublist σ' σ) (hh : Has σ w) : Sub σ' σ := ⟨fun _ hp => h.subset hp, by
  have := hh.nodup
  exact List.Nodup.sublist (show List.Sublist (List.map (fun p : Nat × Obj => p.1) σ') (List.map (fun p : Nat × Obj => p.1) σ) from h.map _) this⟩
theorem KW.sublist {σ' : Heap} {c : Code} (hs : List.Sublist σ' σ) (h : KW C Q c fr σ') : KW C Q c fr σ := fun a w hS => h a w (hS.weak hS.fr (Sub.of_sublist hs hS.own.has))
theorem KO.sublist {σ' : Heap} {ops l : List Oper} (hs : List.Sublist σ' σ) (h : KO C ops Q l fr σ') : KO C ops Q l fr σ := fun a w hS => h a w (hS.weak hS.fr (Sub.of_sublist hs hS.own.has))
/-- The assignments of a round's head, and the round behind it. -/
def assignQ (P : Program) (T : TT P) (l N : Nat) (β : Nat → Option Obj) (body : Code) (Q : KQ) : KQ := fun e fr2 σ2 =>
  e = .normal ∧ ∀ E2 : Env, (∀ b o, β b = some o → E2.β b = some o) → (∃ r, E2.β l = some (.loop r)) → KW ⟨P, T, some l, N, E2, []⟩ Q body fr2 σ2
theorem At.assigned {P : Program} {T : TT P} {l N : Nat} {β : Nat → Option Obj} {body : Code} (h : ∀ E2 : Env, (∀ b o, β b = some o → E2.β b = some o) → (∃ r, E2.β l = some (.loop r)) → KW ⟨P, T, some l, N, E2, []⟩ Q body fr σ) : At (assignQ P T l N β body Q) .normal fr σ := ⟨rfl, h⟩

def rec0 (fn : FuncId) (tmps : Array Value) (ps : Array Tmp) (assign body : Code) (df : Nat) (st : LoopState) (pend : Option Code) : Obj :=
  .loop { state := st, pending := pend, fn := fn, tmps := tmps, params := ps, assign := assign, body := body, defers := df }

def bindT (ps : Array Tmp) (x : List Value) (tmps : Array Value) : Array Value := (ps.zip x.toArray).foldl (fun tmps (t, a) => tmps.setIfInBounds t a) tmps

theorem putObj_get {w : World} {l b : Nat} {o : Obj} (hl : l < w.heap.size) : (w.putObj l o).heap[b]? = if b = l then some o else w.heap[b]? := by
  by_cases e : b = l
  · subst e; rw [if_pos rfl, World.putObj_heap_same hl]
  · rw [if_neg e, World.putObj_heap_other e]

/-- One round, out of the walks of its assignments and its body. -/
theorem ytr_of_round {P : Program} {T : TT P} {N : Nat} {β : Nat → Option Obj} {l : Nat} {fn : FuncId} {tmps : Array Value} {ps : Array Tmp} {assign body : Code} {df : Nat} {x : List Value} {fr1 : Fr} {σ : Heap} {K : Nat → Heap → Prop} {Kx : Exit → Heap → Prop} {j : Nat}
    (hsz : (bindT ps x tmps).size = N) (hlen : x.length = ps.size) (hfr : LOk (look fr1) ⟨bindT ps x tmps, []⟩)
    (hround : ∀ E1 : Env, (∀ b o, β b = some o → E1.β b = some o) → KW ⟨P, T, some l, N, E1, []⟩ (assignQ P T l N β body (roundQ K Kx j)) assign fr1 σ) :
    YTr P l x β ((l, rec0 fn tmps ps assign body df .ready none) :: σ) (fun v τ => (v = .bool true ∧ ∃ σ', K (j + 1) σ' ∧ τ = (l, rec0 fn tmps ps assign body df .ready none) :: σ') ∨
      (v = .bool false ∧ ∃ e c σ', jmp e = some c ∧ Kx e σ' ∧ τ = (l, rec0 fn tmps ps assign body df .done (some c)) :: σ')) := by
  refine ⟨fun w hro hh => ?_⟩
  have hl : w.heap[l]? = some (rec0 fn tmps ps assign body df .ready none) := hh.has (l, rec0 fn tmps ps assign body df .ready none) List.mem_cons_self
  have hlt : l < w.heap.size := lt_of_get hl
  have hnd := hh.nodup
  rw [keys_cons, List.nodup_cons] at hnd
  obtain ⟨hln0, hnd2⟩ := hnd
  have hln : l ∉ keys σ := hln0
  have hσ : Has σ w := ⟨fun p hp => hh.has p (by simp [hp]), hnd2⟩
  refine ⟨fn, bindT ps x tmps, assign, body, run_yield hl (by simpa using hlen), fun r => ?_⟩
  let β1 : Nat → Option Obj := fun b => if b = l then some (rec0 fn tmps ps assign body df .ready none) else β b
  have hβl : ∀ b o, β b = some o → b ≠ l := fun b o hb e => (hro b o hb).2 (by rw [e]; simp)
  have hE1 : ∀ b o, β1 b = some o → w.heap[b]? = some o ∧ ¬ (b ∈ keys σ) := fun b o hb => by
    by_cases e : b = l
    · subst e; simp only [β1, if_pos rfl, Option.some.injEq] at hb; subst hb; exact ⟨hl, hln⟩
    · simp only [β1, if_neg e] at hb; exact ⟨(hro b o hb).1, fun hm => (hro b o hb).2 (by simp [hm])⟩
  let E1 : Env := ⟨w, (· ∈ keys σ), β1, hE1⟩
  have hO1 : Own E1 σ w := ⟨rfl, rfl, rfl, Nat.le_refl _, fun _ _ _ => rfl, hσ, fun _ hb => .inl hb⟩
  have hup1 : ∀ b o, β b = some o → E1.β b = some o := fun b o hb => by simp only [E1, β1, if_neg (hβl b o hb)]; exact hb
  let β2 : Nat → Option Obj := fun b => if b = l then some (rec0 fn tmps ps assign body df .busy none) else β b
  have hE2 : ∀ b o, β2 b = some o → (w.putObj l (rec0 fn tmps ps assign body df .busy none)).heap[b]? = some o ∧ ¬ (b ∈ keys σ) := fun b o hb => by
    by_cases e : b = l
    · subst e; simp only [β2, if_pos rfl, Option.some.injEq] at hb; subst hb; exact ⟨World.putObj_heap_same hlt, hln⟩
    · simp only [β2, if_neg e] at hb; exact ⟨by rw [World.putObj_heap_other e]; exact (hro b o hb).1, fun hm => (hro b o hb).2 (by simp [hm])⟩
  let E2 : Env := ⟨w.putObj l (rec0 fn tmps ps assign body df .busy none), (· ∈ keys σ), β2, hE2⟩
  have hup2 : ∀ b o, β b = some o → E2.β b = some o := fun b o hb => by simp only [E2, β2, if_neg (hβl b o hb)]; exact hb
  refine roundIn_of_wpIn trivial (wpIn_mono (hround E1 hup1 _ w ⟨hsz, hfr, hO1, ⟨[], rfl, by simp, by simp⟩, (fun _ hp => by cases hp)⟩) ?_)
  intro e a1 w1 hq
  cases e with
  | normal =>
    obtain ⟨fr2, σ2, hS, _, hbody⟩ := hq
    have hl1 : w1.heap[l]? = some (rec0 fn tmps ps assign body df .ready none) := (hS.own.ro (b := l) (by simp [E1, β1])).1
    have hln2 : l ∉ keys σ2 := (hS.own.ro (b := l) (o := rec0 fn tmps ps assign body df .ready none) (by simp [E1, β1])).2
    have hlt1 := lt_of_get hl1
    refine ⟨_, run_beginRound hl1 rfl, ?_⟩
    have hget1 : ∀ b, (w1.putObj l (rec0 fn tmps ps assign body df .busy none)).heap[b]? = if b = l then some (rec0 fn tmps ps assign body df .busy none) else w1.heap[b]? := fun b => putObj_get hlt1
    have hget0 : ∀ b, (w.putObj l (rec0 fn tmps ps assign body df .busy none)).heap[b]? = if b = l then some (rec0 fn tmps ps assign body df .busy none) else w.heap[b]? := fun b => putObj_get hlt
    have hS2 : St ⟨P, T, some l, N, E2, []⟩ fr2 σ2 a1 (w1.putObj l (rec0 fn tmps ps assign body df .busy none)) := by
      refine ⟨hS.n, hS.fr, ⟨hS.own.os, hS.own.tape, hS.own.output, by rw [World.putObj_size, World.putObj_size]; exact hS.own.size, fun b hb hk => ?_, ⟨fun p hp => ?_, hS.own.has.nodup⟩, fun b hb => ?_⟩, ?_, (fun _ hp => by cases hp)⟩
      · rw [World.putObj_size] at hb
        rw [hget1, hget0]
        split
        · rfl
        · exact hS.own.old b hb hk
      · have hne : p.1 ≠ l := fun e => hln2 (by rw [← e]; exact mem_keys hp)
        rw [hget1, if_neg hne]; exact hS.own.has.has p hp
      · show _ ∨ (w.putObj l _).heap.size ≤ b
        rw [World.putObj_size]; exact hS.own.new b hb
      · obtain ⟨dl, h1, h2, h3⟩ := hS.defs
        refine ⟨dl, h1, h2, fun r hr => ?_⟩
        obtain ⟨k1, k2, k3⟩ := h3 r hr
        have hne : r ≠ l := fun e => by subst e; have : w.heap.size ≤ r := k1; omega
        refine ⟨by show (w.putObj l _).heap.size ≤ r; rw [World.putObj_size]; exact k1, k2, ?_⟩
        rw [hget1, if_neg hne]; exact k3
    refine wpIn_mono (hbody E2 hup2 ⟨_, by simp only [E2, β2, if_pos rfl]; rfl⟩ _ _ hS2) ?_
    intro e2 a3 w3 hq3
    have fin : ∀ fr3 σ3 st pend, St ⟨P, T, some l, N, E2, []⟩ fr3 σ3 a3 w3 → w3.heap[l]? = some (rec0 fn tmps ps assign body df .busy none) ∧
        Stp ((l, rec0 fn tmps ps assign body df .ready none) :: σ) ((l, rec0 fn tmps ps assign body df st pend) :: σ3) w (w3.putObj l (rec0 fn tmps ps assign body df st pend)) := by
      intro fr3 σ3 st pend hS3
      have hr3 := hS3.own.ro (b := l) (o := rec0 fn tmps ps assign body df .busy none) (by simp [E2, β2])
      have hlt3 := lt_of_get hr3.1
      have hget3 : ∀ b, (w3.putObj l (rec0 fn tmps ps assign body df st pend)).heap[b]? = if b = l then some (rec0 fn tmps ps assign body df st pend) else w3.heap[b]? := fun b => putObj_get hlt3
      have hsz3 : w.heap.size ≤ w3.heap.size := by have := hS3.own.size; rw [show E2.W0.heap.size = w.heap.size from World.putObj_size] at this; exact this
      refine ⟨hr3.1, hS3.own.os, hS3.own.tape, hS3.own.output, by rw [World.putObj_size]; exact hsz3, fun b hb hn => ?_, ⟨fun p hp => ?_, ?_⟩, fun b hb => ?_⟩
      · simp only [keys_cons, List.mem_cons, not_or] at hn
        rw [hget3, if_neg hn.1]
        have := hS3.own.old b (by show b < (w.putObj l _).heap.size; rw [World.putObj_size]; exact hb) hn.2
        rw [this]
        show (w.putObj l _).heap[b]? = _
        rw [hget0, if_neg hn.1]
      · rcases List.mem_cons.1 hp with rfl | hp
        · rw [hget3, if_pos rfl]
        · have hne : p.1 ≠ l := fun e => hr3.2 (by rw [← e]; exact mem_keys hp)
          rw [hget3, if_neg hne]; exact hS3.own.has.has p hp
      · rw [keys_cons, List.nodup_cons]; exact ⟨hr3.2, hS3.own.has.nodup⟩
      · rw [keys_cons] at hb ⊢
        rcases List.mem_cons.1 hb with rfl | hb
        · exact .inl (by simp)
        · rcases hS3.own.new b hb with h | h
          · exact .inl (List.mem_cons_of_mem _ h)
          · exact .inr (by rw [show E2.W0.heap.size = w.heap.size from World.putObj_size] at h; exact h)
    cases e2 with
    | normal =>
      obtain ⟨fr3, σ4, hS4, σ3, hsl, hK⟩ := hq3
      have hS3 := hS4.weak hS4.fr (Sub.of_sublist hsl hS4.own.has)
      obtain ⟨f1, f2⟩ := fin fr3 σ3 .ready none hS3
      exact ⟨_, _, run_endRound none f1, _, rfl, _, .inl ⟨rfl, σ3, hK, rfl⟩, f2⟩
    | ret =>
      obtain ⟨fr3, σ4, hS4, _, σ3, hsl, hK⟩ := hq3
      have hS3 := hS4.weak hS4.fr (Sub.of_sublist hsl hS4.own.has)
      obtain ⟨f1, f2⟩ := fin fr3 σ3 .done (some .ret) hS3
      exact ⟨_, _, run_endRound (some .ret) f1, _, rfl, _, .inr ⟨rfl, .ret, .ret, σ3, rfl, hK, rfl⟩, f2⟩
    | exit id =>
      obtain ⟨fr3, σ4, hS4, _, σ3, hsl, hK⟩ := hq3
      have hS3 := hS4.weak hS4.fr (Sub.of_sublist hsl hS4.own.has)
      obtain ⟨f1, f2⟩ := fin fr3 σ3 .done (some (.exit id)) hS3
      exact ⟨_, _, run_endRound (some (.exit id)) f1, _, rfl, _, .inr ⟨rfl, .exit id, .exit id, σ3, rfl, hK, rfl⟩, f2⟩
    | goto t =>
      obtain ⟨fr3, σ4, hS4, _, σ3, hsl, hK⟩ := hq3
      have hS3 := hS4.weak hS4.fr (Sub.of_sublist hsl hS4.own.has)
      obtain ⟨f1, f2⟩ := fin fr3 σ3 .done (some (.goto t)) hS3
      exact ⟨_, _, run_endRound (some (.goto t)) f1, _, rfl, _, .inr ⟨rfl, .goto t, .goto t, σ3, rfl, hK, rfl⟩, f2⟩
    | panic => exact hq3.elim
    | outgrown => exact hq3.elim
  | ret => obtain ⟨_, _, _, h, _⟩ := hq; cases h
  | exit => obtain ⟨_, _, _, h, _⟩ := hq; cases h
  | goto => obtain ⟨_, _, _, h, _⟩ := hq; cases h
  | panic => exact hq.elim
  | outgrown => exact hq.elim

def bindFr : List Tmp → List Value → Fr → Fr
  | p :: ps, v :: vs, fr => bindFr ps vs ((p, true, v) :: fr)
  | _, _, fr => fr
theorem bindFr_ok : ∀ (ps : List Tmp) (vs : List Value) (fr : Fr) (tmps : Array Value) (N : Nat), tmps.size = N → (ps.all fun p => Nat.blt p N) = true → LOk (look fr) ⟨tmps, []⟩ →
    LOk (look (bindFr ps vs fr)) ⟨(ps.zip vs).foldl (fun tmps (p : Tmp × Value) => tmps.setIfInBounds p.1 p.2) tmps, []⟩ ∧ ((ps.zip vs).foldl (fun tmps (p : Tmp × Value) => tmps.setIfInBounds p.1 p.2) tmps).size = N
  | [], vs, fr, tmps, N, hn, _, h => ⟨by simpa [bindFr] using h, by simpa using hn⟩
  | p :: ps, [], fr, tmps, N, hn, _, h => ⟨by simpa [bindFr] using h, by simpa using hn⟩
  | p :: ps, v :: vs, fr, tmps, N, hn, hp, h => by
    rw [List.all_cons, Bool.and_eq_true] at hp
    have h1 := h.put (d := p) (g := true) (v := v) (by show p < tmps.size; rw [hn]; exact Nat.le_of_ble_eq_true hp.1)
    have := bindFr_ok ps vs ((p, true, v) :: fr) (tmps.setIfInBounds p v) N (by simpa using hn) hp.2 h1
    simpa [bindFr] using this
theorem bindT_eq (ps : Array Tmp) (vs : List Value) (tmps : Array Value) : bindT ps vs tmps = (ps.toList.zip vs).foldl (fun tmps (p : Tmp × Value) => tmps.setIfInBounds p.1 p.2) tmps := by
  unfold bindT
  rw [← Array.foldl_toList, Array.toList_zip]

theorem run_enterLoop_inner {P : Program} {w : World} (fn : FuncId) (tmps : Array Value) (ps : Array Tmp) (assign body : Code) {l0 : Nat} {r : Loop} (h : w.heap[l0]? = some (.loop r)) :
    (Instr.enterLoop fn tmps ps assign body (some l0)).run P w = .ok (w.heap.size, []) (w.alloc (rec0 fn tmps ps assign body r.defers .ready none)) := by
  unfold Instr.enterLoop
  simp only [Sem.run_bind, run_getLoop h, run_newObj_alloc, Result.andThen, Sem.run_pure, rec0]

/-- The statement 'for .. := range g'. -/
theorem KW.range {g : Operand} {ps : Array Tmp} {assign body : Code} {f : FuncId} {first cap : List Value} {items : List (List Value)} (σ0 σc : Heap) (K : Nat → Heap → Prop) (Kx : Exit → Heap → Prop)
    (hg : opnd (look fr) g = some (true, .func (.func f) first.toArray cap.toArray)) (hσ : σ = σ0 ++ σc) (hit : Iter C.P f first cap C.E.β σc items)
    (hr : match C.r with | none => True | some l0 => ∃ r, C.E.β l0 = some (.loop r)) (hlen : ∀ x ∈ items, x.length = ps.size) (hps : (ps.toList.all fun p => Nat.blt p C.N) = true) (h0 : K 0 σ0)
    (hround : ∀ j x σ', items[j]? = some x → K j σ' → ∀ (l : Nat) (E1 : Env), (∀ b o, C.E.β b = some o → E1.β b = some o) →
      KW ⟨C.P, C.T, some l, C.N, E1, []⟩ (assignQ C.P C.T l C.N C.E.β body (roundQ K Kx j)) assign (bindFr ps.toList x fr) σ')
    (hend : ∀ σ', K items.length σ' → At Q .normal fr (σ' ++ σc)) (hx : ∀ e σ', (jmp e).isSome = true → Kx e σ' → At Q e fr (σ' ++ σc)) : KW C Q (.rangeFunc g ps assign body) fr σ := by
  intro a w hS
  have core : ∀ (fn : FuncId) (l df : Nat) (mark : List Deferred) (w₁ : World), (Instr.enterLoop fn a.tmps ps assign body C.r).run C.P w = .ok (l, mark) w₁ →
      St C fr ((l, rec0 fn a.tmps ps assign body df .ready none) :: σ) { a with defers := mark ++ a.defers } w₁ →
      ∃ (l : Nat) (mark : List Deferred) (w₁ : World) (d : Deferred) (w₁' : World) (f : FuncId) (args : Array Value) (w₂ : World),
      (Instr.enterLoop fn a.tmps ps assign body (fnc C.r).round).run C.P w = .ok (l, mark) w₁ ∧
      (resolve a.eval (rangeCall g l) 0).run C.P w₁ = .ok d w₁' ∧
      (∀ f', Target.leads C.P w₁' d.target d.args = some f' → (fnc C.r).fn f') ∧
      (invoke d.target d.args).run C.P w₁' = .ok (.enter f args) w₂ ∧
      ((fnc C.r).depth.isSome = true → 1 ≤ 0) ∧
      CallsIn (fnc C.r) (0 - 1) C.P f args w₂ (rangePost (fnc C.r) 0 C.P l (lift C Q) { a with defers := mark ++ a.defers }) := by
    intro fn l df mark w₁ he hS1
    subst hσ
    refine ⟨l, mark, w₁, { target := .fn (.func f) cap.toArray, args := first.toArray ++ #[.func (.yield l) #[] #[]] }, w₁, f, (first.toArray ++ #[.func (.yield l) #[] #[]]) ++ cap.toArray, w₁, he, ?_, fun _ _ => trivial, ?_, (fun h => by cases h), ?_⟩
    · show (Deferred.ofValue (a.eval g) (#[Operand.const (.func (.yield l) #[] #[])].map a.eval)).run C.P w₁ = _
      rw [opnd_ev hS.fr hg rfl]
      simp [Deferred.ofValue]
    · simp only [invoke]; exact run_enter hit.ok
    · have hit' := hit.run l C.E.β (fun j τ => ∃ σ', K j σ' ∧ τ = (l, rec0 fn a.tmps ps assign body df .ready none) :: σ')
        (fun τ => ∃ e c σ', jmp e = some c ∧ Kx e σ' ∧ τ = (l, rec0 fn a.tmps ps assign body df .done (some c)) :: σ') (fun _ _ h => h) (fun j x τ hx ⟨σ', hK, hτ⟩ => by
          subst hτ
          have hb := bindFr_ok ps.toList x fr a.tmps C.N hS.n hps (fun s g v hs => hS.fr s g v hs)
          rw [← bindT_eq] at hb
          exact ytr_of_round hb.2 (hlen x (List.mem_of_getElem? hx)) hb.1 (hround j x σ' hx hK l)) _ ⟨σ0, h0, rfl⟩
      have hO1 := hS1.own
      have hcall := hit'.run w₁ (fun b o hb => hO1.ro hb) hO1.has
      have e1 : (first.toArray ++ #[Value.func (.yield l) #[] #[]]) ++ cap.toArray = (first ++ [Value.func (.yield l) #[] #[]] ++ cap).toArray := by simp
      rw [e1]
      refine callsIn_fnc.2 (hcall.mono ?_)
      rintro e w₃ ⟨v, σ₃, rfl, ⟨_, σ'', rfl, hJ⟩, hst⟩
      have fin : ∀ st pend σ', st ≠ .busy → σ'' = (l, rec0 fn a.tmps ps assign body df st pend) :: σ' →
          ∃ w₄, (Instr.endLoop l).run C.P w₃ = .ok pend w₄ ∧ St C fr (σ' ++ σc) { a with defers := mark ++ a.defers } w₄ := by
        intro st pend σ' hb hσ''
        subst hσ''
        have hl3 : w₃.heap[l]? = some (rec0 fn a.tmps ps assign body df st pend) := hst.has.has (l, rec0 fn a.tmps ps assign body df st pend) List.mem_cons_self
        refine ⟨_, run_endLoop hl3 hb, ?_⟩
        have hS3 := hS1.step hst
        have hS4 := hS3.step (Stp.set (i := 0) (b := l) (o2 := rec0 fn a.tmps ps assign body df .exhausted pend) hS3.own.has rfl rfl (w' := w₃.putObj l (rec0 fn a.tmps ps assign body df .exhausted pend)) rfl rfl rfl World.putObj_size (fun k hk => World.putObj_heap_other hk) (World.putObj_heap_same (lt_of_get hl3)))
        refine hS4.weak hS4.fr ⟨fun p hp => List.mem_cons_of_mem _ hp, ?_⟩
        have hnd := hS4.own.has.nodup
        rw [keys_cons, List.nodup_cons] at hnd
        exact hnd.2
      rcases hJ with ⟨σ', hK, hτ⟩ | ⟨e, c, σ', hj, hK, hτ⟩
      · obtain ⟨w₄, r1, r2⟩ := fin .ready none σ' (by simp) hτ
        exact ⟨none, w₄, r1, fr, σ' ++ σc, r2, hend σ' hK⟩
      · obtain ⟨w₄, r1, r2⟩ := fin .done (some c) σ' (by simp) hτ
        refine ⟨some c, w₄, r1, ?_⟩
        have hq := hx e σ' (by rw [hj]; rfl) hK
        cases e with
        | ret => simp only [jmp, Option.some.injEq] at hj; subst hj; exact KW.ret hq _ _ r2
        | exit id => simp only [jmp, Option.some.injEq] at hj; subst hj; exact KW.exit hq _ _ r2
        | goto t => simp only [jmp, Option.some.injEq] at hj; subst hj; exact wpIn_goto ⟨fr, _, r2, hq⟩
        | normal => cases hj
        | panic => cases hj
        | outgrown => cases hj
  refine wpIn_rangeFunc fun fn _ => ?_
  have hO := hS.own
  cases hCr : C.r with
  | none =>
    rw [hCr] at core
    refine core fn (w.heap.size + 1) w.heap.size [{ target := .collected w.heap.size, args := #[] }] _ (run_enterLoop_outer fn a.tmps ps assign body) ?_
    have hs1 := Stp.alloc hO.has (.deferred (some []))
    have hs1' : Stp σ σ w (w.alloc (.deferred (some []))) := hs1.sub ⟨fun p hp => List.mem_cons_of_mem _ hp, hO.has.nodup⟩
    have hS1 := hS.step hs1'
    have hs2 := Stp.alloc hS1.own.has (rec0 fn a.tmps ps assign body w.heap.size .ready none)
    rw [World.size_alloc] at hs2
    have hS2 := hS1.step hs2
    refine ⟨hS2.n, hS2.fr, hS2.own, ?_, hS2.hid⟩
    obtain ⟨dl, d1, d2, d3⟩ := hS.defs
    obtain ⟨dl', d1', d2', d3'⟩ := hS2.defs
    have hdl : dl' = dl := by
      have : dl'.map (fun r => ({ target := .collected r, args := #[] } : Deferred)) = dl.map (fun r => { target := .collected r, args := #[] }) := by rw [← d1', ← d1]
      exact (List.map_inj_right (fun x y h => by simpa using h)).1 this
    subst hdl
    refine ⟨w.heap.size :: dl', by show _ :: a.defers = _; rw [List.map_cons, ← d1], ?_, fun r hr => ?_⟩
    · rw [List.nodup_cons]
      exact ⟨fun hm => by have := lt_of_get (d3 _ hm).2.2; omega, d2⟩
    · rcases List.mem_cons.1 hr with rfl | hr
      · refine ⟨hO.size, fun hm => ?_, ?_⟩
        · rw [keys_cons] at hm
          rcases List.mem_cons.1 hm with h | h
          · simp at h
          · exact hO.has.fresh h
        · have e1 : (w.alloc (.deferred (some []))).heap[w.heap.size]? = some (.deferred (some [])) := World.alloc_heap_new w _
          rw [Below.heap_alloc _ _ _ (by rw [World.size_alloc]; omega)]
          exact e1
      · exact d3' r hr
  | some l0 =>
    rw [hCr] at core hr
    obtain ⟨r, hr0⟩ := hr
    have hl0 := (hO.ro hr0).1
    refine core fn w.heap.size r.defers [] _ (run_enterLoop_inner fn a.tmps ps assign body hl0) ?_
    exact hS.step (Stp.alloc hO.has (rec0 fn a.tmps ps assign body r.defers .ready none))
end
end Go.K
end
section
namespace Go.K
open Go Go.RowKit

/-- A slice that can be read: its cells, n each element. -/
def Slc (β : Nat → Option Obj) (σ : Heap) (n m : Nat) (xs : List Value) (v : Value) : Prop :=
  xs.length = m * n ∧ ∃ p c, v = .slice p m c ∧ ((p = none ∧ m = 0 ∧ c = 0) ∨ ∃ b off, p = some ⟨b, off, none⟩ ∧ ∀ j u, xs[j]? = some u → Cel β σ b (off + j) u)

theorem setI_same : ∀ {i : Nat} {σ σ' : Heap} {p : Nat × Obj}, getI i σ = some p → setI i p σ = some σ' → σ' = σ
  | i, [], σ', p, h, _ => by cases i <;> cases h
  | 0, q :: r, σ', p, h, hs => by simp only [getI, Option.some.injEq] at h; simp only [setI, Option.some.injEq] at hs; rw [← hs, h]
  | i + 1, q :: r, σ', p, h, hs => by
    simp only [getI] at h
    simp only [setI] at hs
    cases h1 : setI i p r with
    | none => rw [h1] at hs; cases hs
    | some r' => rw [h1] at hs; simp only [Option.some.injEq] at hs; rw [← hs, setI_same h h1]

theorem flat_rep (z : Value) : ∀ m : Nat, (List.replicate m [z]).flatten = List.replicate m z
  | 0 => rfl
  | m + 1 => by rw [List.replicate_succ, List.flatten_cons, flat_rep z m]; rfl
theorem Cel.mono {β : Nat → Option Obj} {σ σ' : Heap} {b off : Nat} {u : Value} (hs : ∀ p ∈ σ, p ∈ σ') (h : Cel β σ b off u) : Cel β σ' b off u := by
  rcases h with ⟨cs, e, h1, h2⟩ | h
  · exact .inl ⟨cs, e, hs _ h1, h2⟩
  · exact .inr h
theorem Slc.mono {β : Nat → Option Obj} {σ σ' : Heap} {n m : Nat} {xs : List Value} {v : Value} (hs : ∀ p ∈ σ, p ∈ σ') (h : Slc β σ n m xs v) : Slc β σ' n m xs v := by
  obtain ⟨h1, p, c, h2, h3⟩ := h
  refine ⟨h1, p, c, h2, h3.imp id ?_⟩
  rintro ⟨b, off, h4, h5⟩
  exact ⟨b, off, h4, fun j u hj => (h5 j u hj).mono hs⟩
theorem Slc.val {β : Nat → Option Obj} {σ : Heap} {n m : Nat} {xs : List Value} {v : Value} (h : Slc β σ n m xs v) : ∃ p c, v = .slice p m c := by
  obtain ⟨_, p, c, h2, _⟩ := h
  exact ⟨p, c, h2⟩

section
variable {C : Cx} {L : Look} {ops : List Oper} {Q : KQ} {o : Oper} {rest : List Oper} {fr : Fr} {σ : Heap} {d : Nat} {g : Bool}

theorem KO.makeSlice {t e : TypeId} {x y : Operand} {kl kc : IntKind} {a c : Int} {z : Value} {n m : Nat} {zs : List Value} (hg : guardOf ops (look fr) o = some true) (hd : o.dst = some d) (hn : Nat.blt d C.N = true) (ho : o.op = .makeSlice t x y)
    (hx : opnd (look fr) x = some (true, .int kl a)) (hy : opnd (look fr) y = some (true, .int kc c)) (hu : C.T.u t = some (.slice e)) (hz : C.T.i e = some (z, n, m)) (hzc : vcells z = some zs) (hzl : lenB n zs = true) (hn0 : Nat.blt 0 n = true)
    (h0 : 0 ≤ a ∧ a ≤ c) (hb : (m : Int) * c ≤ 281474976710656 ∧ c ≤ 9223372036854775807) (h : ∀ b, b ∉ keys σ → KO C ops Q rest ((d, true, .slice (some ⟨b, 0, none⟩) a.toNat c.toNat) :: fr) ((b, cl (List.replicate c.toNat zs).flatten e) :: σ)) : KO C ops Q (o :: rest) fr σ := by
  obtain ⟨i, hi1, hi2, hi3, hi4⟩ := TT.i_ok hz
  have hn1 : 0 < n := Nat.le_of_ble_eq_true hn0
  have e1 : madeCells z.cells (c.toNat * i.size) = ((List.replicate c.toNat zs).flatten).toArray := by
    rw [hi3]; exact rep_arr hzc (lenB_ok hzl) hn1 c.toNat
  refine KO.eff (Post := fun v σ' => ∃ b, b ∉ keys σ ∧ v = .slice (some ⟨b, 0, none⟩) a.toNat c.toNat ∧ σ' = (b, cl (List.replicate c.toNat zs).flatten e) :: σ) hg hd hn (fun ac w hL hO => .inl ?_) ?_
  · refine ⟨.slice (some ⟨w.heap.size, 0, none⟩) a.toNat c.toNat, w.alloc (cl (List.replicate c.toNat zs).flatten e), ?_, _, ⟨w.heap.size, hO.has.fresh, rfl, rfl⟩, Stp.alloc hO.has _⟩
    have := run_make (P := C.P) w t e i z (TT.u_ok hu) hi1 hi2 kl kc a c h0.1 h0.2 (by rw [hi4]; exact hb.1) hb.2
    simp only [execOp, ho, opnd_ev hL hx rfl, opnd_ev hL hy rfl, Sem.run_bind, this, Result.andThen_ok, Sem.run_pure, e1]
    rfl
  · rintro v σ' ⟨b, hb, rfl, rfl⟩; exact h b hb

/-- Bounds of a cut. -/
theorem run_bounds {P : Program} {w : World} {isS : Bool} {len cap : Nat} {lo hi mx : Option Value} {l h m : Nat}
    (hm : (mx = none ∧ m = cap) ∨ ∃ k a, mx = some (.int k a) ∧ 0 ≤ a ∧ a ≤ (cap : Int) ∧ m = a.toNat) (hmh : hi = none → mx = none)
    (hh : (hi = none ∧ h = len) ∨ ∃ k a, hi = some (.int k a) ∧ 0 ≤ a ∧ a ≤ (m : Int) ∧ h = a.toNat)
    (hl : (lo = none ∧ l = 0) ∨ ∃ k a, lo = some (.int k a) ∧ 0 ≤ a ∧ a ≤ (h : Int) ∧ l = a.toNat) :
    (Instr.sliceBounds isS len cap lo hi mx).run P w = .ok (l, h, m) w := by
  rcases hm with ⟨rfl, rfl⟩ | ⟨k, a, rfl, m1, m2, rfl⟩ <;> rcases hh with ⟨rfl, rfl⟩ | ⟨k', a', rfl, h1, h2, rfl⟩ <;> rcases hl with ⟨rfl, rfl⟩ | ⟨k'', a'', rfl, l1, l2, rfl⟩ <;>
    simp_all [Instr.sliceBounds, Instr.sliceBound, asIntOf]

theorem qt_slice {t e : TypeId} {x : Operand} {lo hi mx : Option Operand} {gx : Bool} {p : Option Addr} {len cap l h m n by' : Nat} {z : Value} {lv hv mv : Option Value} (ho : o.op = .slice t x lo hi mx) (hx : opnd L x = some (gx, .slice p len cap)) (hu : C.T.u t = some (.slice e)) (hz : C.T.i e = some (z, n, by'))
    (hgx : g = true → gx = true) (e1 : ∀ ac, LOk L ac → g = true → lo.map ac.eval = lv ∧ hi.map ac.eval = hv ∧ mx.map ac.eval = mv)
    (hm : g = true → (mv = none ∧ m = cap) ∨ ∃ k a, mv = some (.int k a) ∧ 0 ≤ a ∧ a ≤ (cap : Int) ∧ m = a.toNat) (hmh : hv = none → mv = none)
    (hh : g = true → (hv = none ∧ h = len) ∨ ∃ k a, hv = some (.int k a) ∧ 0 ≤ a ∧ a ≤ (m : Int) ∧ h = a.toNat)
    (hl : g = true → (lv = none ∧ l = 0) ∨ ∃ k a, lv = some (.int k a) ∧ 0 ≤ a ∧ a ≤ (h : Int) ∧ l = a.toNat) :
    Qt C L σ g o (.slice (if m = l then p else p.map (·.add (l * n))) (h - l) (m - l)) :=
  qt_val fun ac w hL _ hg => by
    obtain ⟨q1, q2, q3⟩ := e1 ac hL hg
    have := run_bounds (P := C.P) (w := w) (isS := true) (len := len) (cap := cap) (hm hg) hmh (hh hg) (hl hg)
    simp [execOp, ho, opnd_ev hL hx (hgx hg), q1, q2, q3, Instr.sliceAt, Instr.slice, run_underlying (TT.u_ok hu), this, run_sizeOf hz]

/-- 'copy' into a tracked row of one-cell elements. -/
theorem KO.copy {x y : Operand} {t t' e : TypeId} {z : Value} {by' b off dLen dCap i : Nat} {cs xs : List Value} {te : TypeId} {m : Nat} {v : Value} {σ' : Heap} (hg : guardOf ops (look fr) o = some true) (hd : o.dst = some d) (hn : Nat.blt d C.N = true) (ho : o.op = .call ⟨.builtin .copy, #[x, y], #[t, t']⟩)
    (hx : opnd (look fr) x = some (true, .slice (some ⟨b, off, none⟩) dLen dCap)) (hy : opnd (look fr) y = some (true, v)) (hu : C.T.u t = some (.slice e)) (hz : C.T.i e = some (z, 1, by')) (hv : Slc C.E.β σ 1 m xs v) (hi : getI i σ = some (b, cl cs te)) (h1 : xs.all Value.oneCell' = true)
    (hfit : off + min m dLen ≤ cs.length) (hs : setI i (b, cl (cs.take off ++ xs.take (min m dLen) ++ cs.drop (off + min m dLen)) te) σ = some σ') (h : KO C ops Q rest ((d, true, .int .i64 ((min m dLen : Nat) : Int)) :: fr) σ') : KO C ops Q (o :: rest) fr σ := by
  obtain ⟨hxl, p, c, rfl, hcase⟩ := hv
  rw [Nat.mul_one] at hxl
  obtain ⟨ti, hi1, _, hi3, _⟩ := TT.i_ok hz
  refine KO.eff (Post := fun u s => u = .int .i64 ((min m dLen : Nat) : Int) ∧ s = σ') hg hd hn (fun a w hL hO => .inl ?_) (fun _ _ ⟨e1, e2⟩ => by subst e1 e2; exact h)
  have hb := hO.has.has _ (setI_spec hi hs).2.1
  have hlen : (xs.take (min m dLen)).length = min m dLen := by rw [List.length_take]; omega
  rcases hcase with ⟨rfl, rfl, rfl⟩ | ⟨sb, so, rfl, hc⟩
  · have hr := run_copy_nil (P := C.P) w t t' o.type e ⟨b, off, none⟩ dLen dCap (TT.u_ok hu) (by rw [hi1]; rfl)
    have e0 : min 0 dLen = 0 := Nat.zero_min _
    have hσ : σ' = σ := by
      rw [e0] at hs
      simp only [List.take_zero, List.append_nil, Nat.add_zero, List.take_append_drop] at hs
      exact (setI_same hi hs)
    refine ⟨_, w, ?_, σ', ⟨rfl, rfl⟩, by rw [hσ]; exact Stp.refl hO.has⟩
    simp [execOp, ho, resolve, invoke, builtin, opnd_ev hL hx rfl, opnd_ev hL hy rfl]
    rw [hr]; simp [goInt]
  · have hr := run_copy_row (P := C.P) w t t' o.type e b off dLen dCap ⟨sb, so, none⟩ m c cs.toArray te (xs.take (min m dLen)) (TT.u_ok hu) (by rw [hi1]; simp [hi3]) hb (by rw [hlen])
      (fun j u hj => by
        rw [Addr.add_lit]
        have hlt := (List.getElem?_eq_some_iff.1 hj).1
        rw [hlen] at hlt
        rw [List.getElem?_take_of_lt hlt] at hj
        exact (hc j u hj).ok hO) (by rw [hlen]; simpa using hfit) (fun u hu => List.all_eq_true.1 h1 u (List.mem_of_mem_take hu))
    rw [hlen] at hr
    refine ⟨_, w.setRow b ((cs.toArray.toList.take off ++ xs.take (min m dLen) ++ cs.toArray.toList.drop (off + min m dLen)).toArray), ?_, σ', ⟨rfl, rfl⟩, Stp.set hO.has hi hs rfl rfl rfl (by simp [World.setRow]) (fun k hk => ?_) ?_⟩
    · simp [execOp, ho, resolve, invoke, builtin, opnd_ev hL hx rfl, opnd_ev hL hy rfl]
      rw [hr]; simp [goInt]
    · simp only [World.setRow, Array.getElem?_modify]; rw [if_neg (by omega)]
    · simp [World.setRow, Array.getElem?_modify, hb, cl]
end
end Go.K
end
section
namespace Go.K
open Go Go.RowKit

/-! ### Single effects -/
/-- What an operation does to the tracked heap. -/
def EO (C : Cx) (L : Look) (σ : Heap) (o : Oper) (R : Value → Heap → Prop) : Prop :=
  ∀ a w, LOk L a → Own C.E σ w → Eff C.P o a w fun v w' => ∃ σ', R v σ' ∧ Stp σ σ' w w'

theorem KO.ofEO {C : Cx} {ops rest : List Oper} {Q : KQ} {o : Oper} {fr : Fr} {σ : Heap} {d : Nat} {R : Value → Heap → Prop} (hg : guardOf ops (look fr) o = some true) (hd : o.dst = some d) (hn : Nat.blt d C.N = true) (he : EO C (look fr) σ o R)
    (h : ∀ v σ', R v σ' → KO C ops Q rest ((d, true, v) :: fr) σ') : KO C ops Q (o :: rest) fr σ := KO.eff hg hd hn he h
theorem KO.ofEO0 {C : Cx} {ops rest : List Oper} {Q : KQ} {o : Oper} {fr : Fr} {σ : Heap} {R : Value → Heap → Prop} (hg : guardOf ops (look fr) o = some true) (hd : o.dst = none) (he : EO C (look fr) σ o R)
    (h : ∀ v σ', R v σ' → KO C ops Q rest fr σ') : KO C ops Q (o :: rest) fr σ := KO.eff0 hg hd he h

section
variable {C : Cx} {L : Look} {σ : Heap} {o : Oper}

theorem Qt.eo {v : Value} (h : Qt C L σ true o v) : EO C L σ o (fun u s => u = v ∧ s = σ) := fun a w hL hO => by
  rcases h.eff hL hO with ⟨u, w', h1, h2, h3⟩ | ⟨w', h1, h2, h3⟩ | ⟨f, args, h1, h2⟩
  · exact .inl ⟨u, w', h1, σ, ⟨h2, rfl⟩, Stp.of_below h3 hO.has⟩
  · exact .inr (.inl ⟨w', h1, σ, ⟨h2, rfl⟩, Stp.of_below h3 hO.has⟩)
  · exact .inr (.inr ⟨f, args, h1, h2.mono fun e w' ⟨u, h3, h4, h5⟩ => ⟨u, h3, σ, ⟨h4, rfl⟩, Stp.of_below h5 hO.has⟩⟩)

theorem eo_alloc {t : TypeId} {z : Value} {n m : Nat} {cs : List Value} (ho : o.op = .alloc t) (hz : C.T.i t = some (z, n, m)) (hc : vcells z = some cs) :
    EO C L σ o (fun v σ' => ∃ b, b ∉ keys σ ∧ v = .pointer (some ⟨b, 0, none⟩) ∧ σ' = (b, cl cs t) :: σ) := fun a w _ hO => .inl
  ⟨.pointer (some ⟨w.heap.size, 0, none⟩), w.alloc (cl cs t), by simp [execOp, ho, Instr.alloc, run_zero hz, newVar, newRow, vcells_ok hc, cl], _, ⟨w.heap.size, hO.has.fresh, rfl, rfl⟩, Stp.alloc hO.has _⟩
theorem eo_box {t : TypeId} {x : Operand} {v : Value} {cs : List Value} (ho : o.op = .box t x) (hx : opnd L x = some (true, v)) (hc : vcells v = some cs) :
    EO C L σ o (fun u σ' => ∃ b, b ∉ keys σ ∧ u = .pointer (some ⟨b, 0, none⟩) ∧ σ' = (b, cl cs t) :: σ) := fun a w hL hO => .inl
  ⟨.pointer (some ⟨w.heap.size, 0, none⟩), w.alloc (cl cs t), by simp [execOp, ho, Instr.box, opnd_ev hL hx rfl, newVar, newRow, vcells_ok hc, cl], _, ⟨w.heap.size, hO.has.fresh, rfl, rfl⟩, Stp.alloc hO.has _⟩
theorem eo_buildSlice {t e len n m : Nat} {parts : Array (Nat × Operand)} {gs : List Bool} {vs : List (Nat × Value)} {z : Value} {zs base cs : List Value} (ho : o.op = .buildSlice t len parts)
    (hx : evParts L parts.toList = some (gs, vs)) (hgs : gs.all id = true) (hu : C.T.u t = some (.slice e)) (hz : C.T.i e = some (z, n, m)) (hzc : vcells z = some zs) (hzl : lenB n zs = true) (hn0 : Nat.blt 0 (len * n) = true) (hlim : Nat.ble (len * n) 16777216 = true)
    (hb : repL len zs = some base) (hf : fillL (fun i => some (i * n, n)) base vs = some cs) : EO C L σ o (fun u σ' => ∃ b, b ∉ keys σ ∧ u = .slice (some ⟨b, 0, none⟩) len len ∧ σ' = (b, cl cs e) :: σ) := fun a w hL hO => .inl
  ⟨.slice (some ⟨w.heap.size, 0, none⟩) len len, w.alloc (cl cs e), by
    have hlt : 0 < len * n := Nat.le_of_ble_eq_true hn0
    have hlim' : ¬ (16777216 < len * n) := by have := Nat.le_of_ble_eq_true hlim; omega
    have hn1 : 0 < n := Nat.pos_of_mul_pos_left hlt
    have e1 := rep_arr hzc (lenB_ok hzl) hn1 len
    rw [← repL_ok hb] at e1
    have e2 : (parts.map fun (p : Nat × Operand) => (p.1, a.eval p.2)).toList = vs := by rw [Array.toList_map]; exact evParts_ok hL hx hgs
    have e3 := fill_ok (fun i => some (i * n, n)) vs base cs hf
    have hne : ¬ len * n = 0 := by omega
    simp only [execOp, ho, Instr.buildSlice, Sem.run_bind, run_underlying (TT.u_ok hu), Result.andThen_ok, run_sizeOf hz, Sem.run_ite, if_neg hlim', Sem.run_pure, if_neg hne, run_zero hz, e1, e2, e3]
    simp [newRow, cl, hlim', hne, run_zero hz, e1, e3], _, ⟨w.heap.size, hO.has.fresh, rfl, rfl⟩, Stp.alloc hO.has _⟩
theorem eo_makeSlice {t e : TypeId} {x y : Operand} {kl kc : IntKind} {a c : Int} {z : Value} {n m : Nat} {zs : List Value} (ho : o.op = .makeSlice t x y)
    (hx : opnd L x = some (true, .int kl a)) (hy : opnd L y = some (true, .int kc c)) (hu : C.T.u t = some (.slice e)) (hz : C.T.i e = some (z, n, m)) (hzc : vcells z = some zs) (hzl : lenB n zs = true) (hn0 : Nat.blt 0 n = true)
    (h0 : 0 ≤ a ∧ a ≤ c) (hb : (m : Int) * c ≤ 281474976710656 ∧ c ≤ 9223372036854775807) : EO C L σ o (fun v σ' => ∃ b, b ∉ keys σ ∧ v = .slice (some ⟨b, 0, none⟩) a.toNat c.toNat ∧ σ' = (b, cl (List.replicate c.toNat zs).flatten e) :: σ) := fun ac w hL hO => by
  obtain ⟨i, hi1, hi2, hi3, hi4⟩ := TT.i_ok hz
  have hn1 : 0 < n := Nat.le_of_ble_eq_true hn0
  have e1 : madeCells z.cells (c.toNat * i.size) = ((List.replicate c.toNat zs).flatten).toArray := by
    rw [hi3]; exact rep_arr hzc (lenB_ok hzl) hn1 c.toNat
  refine .inl ⟨.slice (some ⟨w.heap.size, 0, none⟩) a.toNat c.toNat, w.alloc (cl (List.replicate c.toNat zs).flatten e), ?_, _, ⟨w.heap.size, hO.has.fresh, rfl, rfl⟩, Stp.alloc hO.has _⟩
  have := run_make (P := C.P) w t e i z (TT.u_ok hu) hi1 hi2 kl kc a c h0.1 h0.2 (by rw [hi4]; exact hb.1) hb.2
  simp only [execOp, ho, opnd_ev hL hx rfl, opnd_ev hL hy rfl, Sem.run_bind, this, Result.andThen_ok, Sem.run_pure, e1]
  rfl
theorem eo_storeW {t : TypeId} {x y : Operand} {z v : Value} {b off n m i : Nat} {cs vs cs' : List Value} {e : TypeId} {σ' : Heap} (ho : o.op = .store t x y)
    (hx : opnd L x = some (true, .pointer (some ⟨b, off, none⟩))) (hy : opnd L y = some (true, v)) (hc : vcells v = some vs) (h1 : vs.all Value.oneCell' = true) (hz : C.T.i t = some (z, n, m)) (hl : vs.length = n)
    (hi : getI i σ = some (b, cl cs e)) (hw : Wr cs off vs cs') (hs : setI i (b, cl cs' e) σ = some σ') : EO C L σ o (fun _ s => s = σ') := fun a w hL hO => by
  have hb := hO.has.has _ (setI_spec hi hs).2.1
  obtain ⟨w', r1, r2, r3, r4, r5, r6, r7⟩ := run_storeCells (P := C.P) vs off 0 cs w hb (by simpa using hw.1) h1
  refine .inr (.inl ⟨w', ?_, σ', rfl, Stp.set hO.has hi hs r2 r3 r4 r5 r6 (by rw [r7]; simp only [Nat.add_zero]; rw [hw.2])⟩)
  have hsz : v.cells.size = n := by rw [vcells_ok hc]; simpa using hl
  simp [execOp, ho, opnd_ev hL hx rfl, opnd_ev hL hy rfl, Instr.storeAt, Instr.sureAddr, storeVar, run_sizeOf hz, hsz, vcells_ok hc, r1, hl]
theorem eo_store {t : TypeId} {x y : Operand} {z v : Value} {b off n m i : Nat} {cs vs cs' : List Value} {e : TypeId} {σ' : Heap} (ho : o.op = .store t x y)
    (hx : opnd L x = some (true, .pointer (some ⟨b, off, none⟩))) (hy : opnd L y = some (true, v)) (hc : vcells v = some vs) (h1 : vs.all Value.oneCell' = true) (hz : C.T.i t = some (z, n, m)) (hl : vs.length = n)
    (hi : getI i σ = some (b, cl cs e)) (hw : writeN off vs cs = some cs') (ho2 : Nat.ble off cs.length = true) (hs : setI i (b, cl cs' e) σ = some σ') : EO C L σ o (fun _ s => s = σ') :=
  eo_storeW ho hx hy hc h1 hz hl hi (writeN_ok (Nat.le_of_ble_eq_true ho2) hw) hs
theorem eo_append {s x : Operand} {t e : Nat} {z : Value} {n by' m k c bx ox : Nat} {zs xs news : List Value} {v : Value} (ρ φ : Heap) (ho : o.op = .call ⟨.builtin .append, #[s, x], #[t, t]⟩)
    (hs : opnd L s = some (true, v)) (hx : opnd L x = some (true, .slice (some ⟨bx, ox, none⟩) k c)) (hu : C.T.u t = some (.slice e)) (hz : C.T.i e = some (z, n, by')) (hzc : vcells z = some zs) (hzl : zs.length = n) (hn0 : 0 < n)
    (hσ : σ = ρ ++ φ) (hv : Vec e n m xs v φ) (hl : news.length = k * n) (hnews : ∀ j u, news[j]? = some u → Cel C.E.β σ bx (ox + j) u) (h1 : news.all Value.oneCell' = true) (hm : m + k ≤ maxLen) (hby : (m + k) * by' ≤ 140737488355328) :
    EO C L σ o (fun v' σ' => ∃ φ', Vec e n (m + k) (xs ++ news) v' φ' ∧ σ' = ρ ++ φ') := fun a w hL hO => by
  subst hσ
  obtain ⟨v', w', φ', r1, r2, r3⟩ := run_append (ty := o.type) hu hz hzc hzl hn0 hv hO.has hl (fun j u hj => by rw [Addr.add_lit]; exact (hnews j u hj).ok hO) h1 hm hby
  refine .inl ⟨v', w', ?_, ρ ++ φ', ⟨φ', r2, rfl⟩, r3⟩
  simp [execOp, ho, resolve, invoke, builtin, opnd_ev hL hs rfl, opnd_ev hL hx rfl]
  rw [r1]
  simp
/-- A call that makes what it tells out of new memory. -/
theorem eo_callE {x : Operand} {f : FuncId} {first cap : List Value} {args : Array Operand} {ts : Array TypeId} {gs : List Bool} {vs av : List Value} {R : Value → Heap → Prop}
    (ho : o.op = .call ⟨.value x, args, ts⟩) (hx : opnd L x = some (true, .func (.func f) first.toArray cap.toArray)) (ha : opnds L args.toList = some (gs, vs)) (hi : gs.all id = true) (hv : av = first ++ vs ++ cap) (hT : Tr C.P f av C.E.β [] R) :
    EO C L σ o (fun v s => ∃ σ', R v σ' ∧ s = σ' ++ σ) := fun a w hL hO => .inr (.inr (by
  refine ⟨f, _, run_call hT.1 ho (opnd_ev hL hx rfl) (opnds_ok hL ha hi), ?_⟩
  have e : (first.toArray ++ vs.toArray) ++ cap.toArray = av.toArray := by rw [hv]; simp
  rw [e]
  refine (hT.2 w (fun b o hb => ⟨(hO.ro hb).1, by simp⟩) (Has.nil w)).mono ?_
  rintro e w' ⟨v, σ', h1, h2, h3⟩
  exact ⟨v, h1, σ' ++ σ, ⟨σ', h2, rfl⟩, h3.frame (σ := []) hO.has⟩))
theorem eo_callT {x : Operand} {f : FuncId} {first cap : List Value} {args : Array Operand} {ts : Array TypeId} {gs : List Bool} {vs av : List Value} {R : Value → Heap → Prop} {is js : List Nat} {σf φ : Heap}
    (ho : o.op = .call ⟨.value x, args, ts⟩) (hx : opnd L x = some (true, .func (.func f) first.toArray cap.toArray)) (ha : opnds L args.toList = some (gs, vs)) (hi : gs.all id = true) (hT : Tr C.P f av C.E.β σf R) (hv : av = first ++ vs ++ cap)
    (hs : selA is σ = some σf) (hr : selA js σ = some φ) (hnd : nodupB (is ++ js) = true) : EO C L σ o (fun v s => ∃ σ', R v σ' ∧ s = σ' ++ φ) := fun a w hL hO => .inr (.inr (by
  have hsub : Sub (σf ++ φ) σ := Sl.sub ⟨selA_append hs hr, hnd⟩ hO.has
  have hh := hO.has.sub hsub
  have hhf : Has σf w := ⟨fun p hp => hh.has p (List.mem_append_left _ hp), by have := hh.nodup; rw [keys_append] at this; exact (List.nodup_append.1 this).1⟩
  refine ⟨f, _, run_call hT.1 ho (opnd_ev hL hx rfl) (opnds_ok hL ha hi), ?_⟩
  have e : (first.toArray ++ vs.toArray) ++ cap.toArray = av.toArray := by rw [hv]; simp
  rw [e]
  refine (hT.2 w (fun b o hb => ⟨(hO.ro hb).1, fun hm => (hO.ro hb).2 (hsub.keys b (by rw [keys_append]; exact List.mem_append_left _ hm))⟩) hhf).mono ?_
  rintro e w' ⟨v, σ', h1, h2, h3⟩
  have h4 := h3.frame hh
  exact ⟨v, h1, σ' ++ φ, ⟨σ', h2, rfl⟩, ⟨h4.os, h4.tape, h4.output, h4.size, fun b hb hnb => h4.old b hb (fun hm => hnb (hsub.keys b hm)), h4.has, fun b hb => (h4.new b hb).imp (hsub.keys b) id⟩⟩))
end

/-! ### The check. Classes: 0: quiet, ahead of all effects that turn something; 1: quiet, reads nothing that turns; 2: makes new memory alone; 3: an effect. -/
def clsAt (cs : List Nat) (k : Nat) : Nat := (nth cs k).getD 9
def hdB (cs : List Nat) (k : Nat) : Bool := Nat.ble (clsAt cs k) 1
def chkM (ops : List Oper) (cs : List Nat) : Bool :=
  let B := masks ops []
  let m := cs.length
  cs.all (fun c => Nat.ble c 3) && Nat.ble m ops.length &&
  (List.range ops.length).all (fun i => match nth ops i with
    | none => true
    | some o => (depsOf o).all (fun j => decide (j < i)) &&
      (if i < m then (List.range m).all (chkPair ops B i o) &&
        (if hdB cs i then (depsOf o).all (hdB cs) else (List.range i).all (fun k => hdB cs k || bit B i k)) &&
        (if Nat.beq (clsAt cs i) 3 then (List.range m).all (fun k => !(Nat.beq (clsAt cs k) 0) || (decide (k < i) && bit B i k)) else true)
      else (List.range i).all (fun k => bit B i k)))

structure ChkM (ops : List Oper) (cs : List Nat) : Prop where
  le : cs.length ≤ ops.length
  c3 : ∀ k, k < cs.length → clsAt cs k ≤ 3
  low : ∀ i o, ops[i]? = some o → ∀ j ∈ depsOf o, j < i
  pair : ∀ i o k ok s, i < cs.length → k < cs.length → ops[i]? = some o → ops[k]? = some ok → ok.dst = some s → i ≠ k → (s ∈ namesOf ops o ∨ o.dst = some s) → if k < i then Bef ops k i else Bef ops i k
  tail : ∀ i o k, cs.length ≤ i → ops[i]? = some o → k < cs.length → Bef ops k i
  head : ∀ i o, i < cs.length → ops[i]? = some o → hdB cs i = true → ∀ j ∈ depsOf o, hdB cs j = true
  chain : ∀ i k, i < cs.length → hdB cs i = false → hdB cs k = false → k < i → Bef ops k i
  early : ∀ i k, i < cs.length → clsAt cs i = 3 → k < cs.length → clsAt cs k = 0 → Bef ops k i

/-- What is behind all stands in a chain. -/
def ChT (ops : List Oper) (cs : List Nat) : Prop := ∀ i o k, cs.length ≤ i → ops[i]? = some o → k < i → Bef ops k i
theorem chkM_okT {ops : List Oper} {cs : List Nat} (h : chkM ops cs = true) : ChT ops cs := by
  unfold chkM at h
  simp only [Bool.and_eq_true, List.all_eq_true, List.mem_range] at h
  obtain ⟨⟨hc, hle⟩, h⟩ := h
  intro i o k hi ho hk
  have h1 := h i (List.getElem?_eq_some_iff.1 ho).1
  rw [nth_eq, ho] at h1
  simp only [Bool.and_eq_true, List.all_eq_true, decide_eq_true_eq] at h1
  have h2 := h1.2
  rw [if_neg (by omega)] at h2
  simp only [List.all_eq_true, List.mem_range] at h2
  exact bit_ok (h2 k hk)

theorem chkM_ok {ops : List Oper} {cs : List Nat} (h : chkM ops cs = true) : ChkM ops cs := by
  unfold chkM at h
  simp only [Bool.and_eq_true, List.all_eq_true, List.mem_range] at h
  obtain ⟨⟨hc, hle⟩, h⟩ := h
  have hle := Nat.le_of_ble_eq_true hle
  have key : ∀ i o, ops[i]? = some o → (∀ j ∈ depsOf o, j < i) ∧ (i < cs.length → (∀ k, k < cs.length → chkPair ops (masks ops []) i o k = true) ∧
      (if hdB cs i then (depsOf o).all (hdB cs) else (List.range i).all (fun k => hdB cs k || bit (masks ops []) i k)) = true ∧
      (clsAt cs i = 3 → ∀ k, k < cs.length → clsAt cs k = 0 → bit (masks ops []) i k = true)) ∧ (cs.length ≤ i → ∀ k, k < i → bit (masks ops []) i k = true) := by
    intro i o ho
    have h1 := h i (List.getElem?_eq_some_iff.1 ho).1
    rw [nth_eq, ho] at h1
    simp only [Bool.and_eq_true, List.all_eq_true, decide_eq_true_eq] at h1
    refine ⟨h1.1, fun hi => ?_, fun hi k hk => ?_⟩
    · have h2 := h1.2
      rw [if_pos hi] at h2
      simp only [Bool.and_eq_true, List.all_eq_true, List.mem_range] at h2
      refine ⟨fun k hk => h2.1.1 k hk, h2.1.2, fun h3 k hk h0 => ?_⟩
      have h4 := h2.2
      rw [h3, if_pos (show Nat.beq 3 3 = true from rfl)] at h4
      have h5 := List.all_eq_true.1 h4 k (List.mem_range.2 hk)
      rw [h0] at h5
      have h6 : (decide (k < i) && bit (masks ops []) i k) = true := by simpa using h5
      rw [Bool.and_eq_true] at h6; exact h6.2
    · have h2 := h1.2
      rw [if_neg (by omega)] at h2
      simp only [List.all_eq_true, List.mem_range] at h2
      exact h2 k hk
  refine ⟨hle, fun k hk => ?_, fun i o ho => (key i o ho).1, fun i o k ok s hi hk ho hok hs hne hn => ?_, fun i o k hi ho hk => bit_ok ((key i o ho).2.2 hi k (by omega)), fun i o hi ho hh j hj => ?_, fun i k hi hh hk hlt => ?_, fun i k hi h3 hk h0 => ?_⟩
  · have : cs[k]? = some cs[k] := List.getElem?_eq_getElem hk
    unfold clsAt
    rw [nth_eq, this]
    exact Nat.le_of_ble_eq_true (hc _ (List.getElem_mem hk))
  · have h2 := ((key i o ho).2.1 hi).1 k hk
    unfold chkPair at h2
    rw [nth_eq, hok] at h2
    simp only [hs] at h2
    have e1 : Nat.beq i k = false := by
      cases hb : Nat.beq i k with
      | false => rfl
      | true => exact absurd (Nat.eq_of_beq_eq_true hb) hne
    have h3 : (if k < i then bit (masks ops []) i k else bit (masks ops []) k i) = true := by
      rcases hn with hn | hn
      · rw [e1, elemB_mem hn] at h2; simpa using h2
      · rw [e1, hn] at h2; simpa using h2
    split at h3
    · rename_i hlt; rw [if_pos hlt]; exact bit_ok h3
    · rename_i hlt; rw [if_neg hlt]; exact bit_ok h3
  · have h2 := ((key i o ho).2.1 hi).2.1
    rw [if_pos hh] at h2
    exact List.all_eq_true.1 h2 j hj
  · have ho : ops[i]? = some ops[i] := List.getElem?_eq_getElem (by omega)
    have h2 := ((key i _ ho).2.1 hi).2.1
    rw [if_neg (by rw [hh]; simp)] at h2
    have h3 := List.all_eq_true.1 h2 k (List.mem_range.2 hlt)
    rw [hk] at h3
    exact bit_ok (by simpa using h3)
  · have ho : ops[i]? = some ops[i] := List.getElem?_eq_getElem (by omega)
    exact bit_ok (((key i _ ho).2.1 hi).2.2 h3 k hk h0)

/-! ### The judgement: the head, in the text's order; the effects; what is behind all of them -/
def hSel (σ0 ρ : Heap) : Nat → Heap
  | 0 => σ0
  | _ => ρ
def KDH (C : Cx) (ops : List Oper) (σ0 ρ : Heap) (K : Fr → Prop) : List Nat → List Oper → Fr → Prop
  | c :: cs, o :: rest, fr => match Nat.ble c 1 with
    | true => ∃ g v, (guardOf ops (LR (namesOf ops o) (look fr)) o = some g ∨ guardIn ops (LR (namesOf ops o) (look fr)) o = some g) ∧ okDst C.N o.dst = true ∧
      Qt C (LR (namesOf ops o) (look fr)) (hSel σ0 ρ c) g o v ∧ KDH C ops σ0 ρ K cs rest (pushFr o.dst g v fr)
    | false => KDH C ops σ0 ρ K cs rest fr
  | _, _, fr => K fr
def KDM (C : Cx) (ops : List Oper) (σ0 ρ : Heap) (K : Fr → Heap → Prop) : Bool → List Nat → List Oper → Fr → Heap → Prop
  | h, c :: cs, o :: rest, fr, σ => match Nat.ble c 1 with
    | true => KDM C ops σ0 ρ K h cs rest fr σ
    | false => ∃ g R, guardOf ops (LR (namesOf ops o) (look fr)) o = some g ∧ okDst C.N o.dst = true ∧ (g = true → EO C (LR (namesOf ops o) (look fr)) σ o R) ∧ (g = false → R undef σ) ∧
      ∀ v σ', R v σ' → (∀ p ∈ hSel σ0 ρ (if h || Nat.beq c 3 then 1 else 0), p ∈ σ') ∧ KDM C ops σ0 ρ K (h || Nat.beq c 3) cs rest (pushFr o.dst g v fr) σ'
  | _, _, _, fr, σ => K fr σ

structure StepH (C : Cx) (ops : List Oper) (σh : Heap) (hd : Bool) (o : Oper) (g : Bool) (v : Value) (fr fr' : Fr) : Prop where
  yes : hd = true → (guardOf ops (LR (namesOf ops o) (look fr)) o = some g ∨ guardIn ops (LR (namesOf ops o) (look fr)) o = some g) ∧ okDst C.N o.dst = true ∧ Qt C (LR (namesOf ops o) (look fr)) σh g o v ∧ fr' = pushFr o.dst g v fr
  no : hd = false → fr' = fr

theorem clsAt_zero (c : Nat) (cs : List Nat) : clsAt (c :: cs) 0 = c := rfl
theorem clsAt_succ (c : Nat) (cs : List Nat) (k : Nat) : clsAt (c :: cs) (k + 1) = clsAt cs k := rfl
theorem clsAt_nil (k : Nat) : clsAt [] k = 9 := by simp [clsAt, nth]

theorem KDH.run {C : Cx} {ops : List Oper} {σ0 ρ : Heap} {K : Fr → Prop} : ∀ (cs : List Nat) (l : List Oper) (n : Nat) (fr : Fr), n + l.length = ops.length → cs.length ≤ l.length → (∀ j, l[j]? = ops[n + j]?) → KDH C ops σ0 ρ K cs l fr →
    ∃ (gs : Nat → Bool) (vs : Nat → Value) (frs : Nat → Fr), frs n = fr ∧ (∀ k o, n ≤ k → k < n + cs.length → ops[k]? = some o → StepH C ops (hSel σ0 ρ (clsAt cs (k - n))) (hdB cs (k - n)) o (gs k) (vs k) (frs k) (frs (k + 1))) ∧ K (frs (n + cs.length))
  | [], l, n, fr, _, _, _, h => ⟨fun _ => true, fun _ => undef, fun _ => fr, rfl, fun k o h1 h2 => by simp at h2; omega, by cases l <;> exact h⟩
  | c :: cs, [], n, fr, _, hle, _, _ => by simp at hle
  | c :: cs, o :: rest, n, fr, hn, hle, hl, h => by
    have h0 : ops[n]? = some o := by have := hl 0; simpa using this.symm
    have hl' : ∀ j, rest[j]? = ops[n + 1 + j]? := fun j => by have := hl (j + 1); simpa [Nat.add_assoc, Nat.add_comm 1 j] using this
    simp only [List.length_cons] at hn hle
    have he : n + (c :: cs).length = n + 1 + cs.length := by simp; omega
    have hshift : ∀ k, n + 1 ≤ k → k - n = (k - (n + 1)) + 1 := fun k hk => by omega
    unfold KDH at h
    cases hc : Nat.ble c 1 with
    | false =>
      rw [hc] at h
      obtain ⟨gs, vs, frs, e1, e2, e3⟩ := KDH.run cs rest (n + 1) fr (by omega) (by omega) hl' h
      refine ⟨gs, vs, fun k => if k = n then fr else frs k, by simp, fun k o' hk hk2 ho => ?_, ?_⟩
      · by_cases e : k = n
        · subst e
          have hne : k + 1 ≠ k := by omega
          rw [Nat.sub_self]
          refine ⟨fun e => ?_, fun _ => ?_⟩
          · rw [show hdB (c :: cs) 0 = Nat.ble c 1 from rfl, hc] at e; cases e
          · simp only [hne, if_false, if_true]; exact e1
        · have hne : k + 1 ≠ n := by omega
          have := e2 k o' (by omega) (by omega) ho
          rw [hshift k (by omega)]
          simp only [e, hne, if_false]
          exact this
      · rw [he]
        have hne : n + 1 + cs.length ≠ n := by omega
        simp only [hne, if_false]; exact e3
    | true =>
      rw [hc] at h
      obtain ⟨g, v, h1, h2, h3, h4⟩ := h
      obtain ⟨gs, vs, frs, e1, e2, e3⟩ := KDH.run cs rest (n + 1) _ (by omega) (by omega) hl' h4
      refine ⟨fun k => if k = n then g else gs k, fun k => if k = n then v else vs k, fun k => if k = n then fr else frs k, by simp, fun k o' hk hk2 ho => ?_, ?_⟩
      · by_cases e : k = n
        · subst e
          have ho' : o' = o := Option.some.inj (ho.symm.trans h0)
          subst ho'
          have hne : k + 1 ≠ k := by omega
          rw [Nat.sub_self]
          refine ⟨fun _ => ?_, fun e => ?_⟩
          · simp only [hne, if_false, if_true]; exact ⟨h1, h2, h3, e1⟩
          · rw [show hdB (c :: cs) 0 = Nat.ble c 1 from rfl, hc] at e; cases e
        · have hne : k + 1 ≠ n := by omega
          have := e2 k o' (by omega) (by omega) ho
          rw [hshift k (by omega)]
          simp only [e, hne, if_false]
          exact this
      · rw [he]
        have hne : n + 1 + cs.length ≠ n := by omega
        simp only [hne, if_false]; exact e3

section
variable {C : Cx} {ops : List Oper} {Q : KQ} {cs : List Nat} {σ0 ρ : Heap}

/-- The values, the guards, the frames of the head, in the text's order. -/
structure RunH (C : Cx) (ops : List Oper) (σ0 ρ : Heap) (cs : List Nat) (gs : Nat → Bool) (vs : Nat → Value) (frs : Nat → Fr) : Prop where
  at_ : ∀ k o, k < cs.length → ops[k]? = some o → StepH C ops (hSel σ0 ρ (clsAt cs k)) (hdB cs k) o (gs k) (vs k) (frs k) (frs (k + 1))

def SrcH (ops : List Oper) (cs : List Nat) (gs : Nat → Bool) (vs : Nat → Value) (fr0 : Fr) (i s : Nat) (g : Bool) (v : Value) : Prop :=
    (∃ k o, k < i ∧ hdB cs k = true ∧ ops[k]? = some o ∧ o.dst = some s ∧ g = gs k ∧ v = vs k ∧ ∀ k' o', k' < i → hdB cs k' = true → ops[k']? = some o' → o'.dst = some s → k' ≤ k) ∨
    ((∀ k o, k < i → hdB cs k = true → ops[k]? = some o → o.dst ≠ some s) ∧ look fr0 s = some (g, v))
theorem RunH.src {gs : Nat → Bool} {vs : Nat → Value} {frs : Nat → Fr} (h : RunH C ops σ0 ρ cs gs vs frs) (hm : cs.length ≤ ops.length) : ∀ i, i ≤ cs.length → ∀ s g v, look (frs i) s = some (g, v) → SrcH ops cs gs vs (frs 0) i s g v
  | 0, _, s, g, v, hl => .inr ⟨fun k o hk => by omega, hl⟩
  | i + 1, hi, s, g, v, hl => by
    have ho : ops[i]? = some ops[i] := List.getElem?_eq_getElem (by omega)
    have hst := h.at_ i _ (by omega) ho
    have old : look (frs i) s = some (g, v) → (hdB cs i = true → ops[i].dst ≠ some s) → SrcH ops cs gs vs (frs 0) (i + 1) s g v := fun hl' hne => by
      have ih := RunH.src h hm i (by omega) s g v hl'
      rcases ih with ⟨k, o, a1, a0, a2, a3, a4, a5, a6⟩ | ⟨a1, a2⟩
      · refine Or.inl ⟨k, o, by omega, a0, a2, a3, a4, a5, fun k' o' hk' hh' ho' hd' => ?_⟩
        by_cases e : k' = i
        · subst e; rw [ho] at ho'; rw [← Option.some.inj ho'] at hd'; exact absurd hd' (hne hh')
        · exact a6 k' o' (by omega) hh' ho' hd'
      · refine Or.inr ⟨fun k o hk hh hok hd => ?_, a2⟩
        by_cases e : k = i
        · subst e; rw [ho] at hok; rw [← Option.some.inj hok] at hd; exact absurd hd (hne hh)
        · exact a1 k o (by omega) hh hok hd
    cases hh : hdB cs i with
    | false =>
      rw [hst.no hh] at hl
      exact old hl (fun e => by rw [hh] at e; cases e)
    | true =>
      obtain ⟨_, _, _, h4⟩ := hst.yes hh
      rw [h4] at hl
      cases hd : ops[i].dst with
      | none => rw [hd] at hl; exact old hl (fun _ => by rw [hd]; simp)
      | some d =>
        rw [hd] at hl
        simp only [pushFr] at hl
        unfold look at hl
        cases hb : Nat.beq d s with
        | true =>
          rw [hb] at hl
          simp only [cond_true, Option.some.injEq, Prod.mk.injEq] at hl
          have e := Nat.eq_of_beq_eq_true hb
          subst e
          exact .inl ⟨i, ops[i], by omega, hh, ho, hd, hl.1.symm, hl.2.symm, fun k' _ hk' _ _ _ => by omega⟩
        | false =>
          rw [hb] at hl
          exact old hl (fun _ => by rw [hd]; intro e; rw [Option.some.inj e] at hb; simp at hb)

/-- What effects have told: the canonical frame and heap when those ahead of t have been carried out. -/
structure InvM (C : Cx) (ops : List Oper) (σ0 ρ : Heap) (cs : List Nat) (gs : Nat → Bool) (vs : Nat → Value) (frm : Fr) (a0 : Act) (K : Fr → Heap → Prop) (L : Array Bool) (a : Act) (w : World) (t : Nat) (h : Bool) (F : Fr) (σ : Heap) : Prop where
  size : L.size = ops.length
  closed : ∀ i o, ops[i]? = some o → L.getD i false = true → ∀ j ∈ depsOf o, L.getD j false = true
  pre : ∀ i, cs.length ≤ i → L.getD i false = false
  n : a.tmps.size = C.N
  tle : t ≤ cs.length
  mids : ∀ i, i < cs.length → hdB cs i = false → (L.getD i false = true ↔ i < t)
  hard : h = true → ∃ i, i < t ∧ clsAt cs i = 3
  wrote : ∀ s k o, hdB cs k = true → L.getD k false = true → ops[k]? = some o → o.dst = some s → (∀ k' o', L.getD k' false = true → ops[k']? = some o' → o'.dst = some s → hdB cs k' = true ∧ k' ≤ k) → a.tmps[s]? = some (gv (gs k) (vs k))
  midw : ∀ s k o g v, hdB cs k = false → L.getD k false = true → ops[k]? = some o → o.dst = some s → look F s = some (g, v) → a.tmps[s]? = some (gv g v)
  midn : ∀ s, (∀ k o, hdB cs k = false → L.getD k false = true → ops[k]? = some o → o.dst ≠ some s) → look F s = look frm s
  kept : ∀ s, (∀ k o, L.getD k false = true → ops[k]? = some o → o.dst ≠ some s) → a.tmps[s]? = a0.tmps[s]?
  own : Own C.E σ w
  defs : Defs C σ a w
  hid : Hid C σ w
  st : ∀ p ∈ hSel σ0 ρ (if h then 1 else 0), p ∈ σ
  go : KDM C ops σ0 ρ K h (cs.drop t) (ops.drop t) F σ

theorem getI_drop_cls {cs : List Nat} {t : Nat} (h : t < cs.length) : cs.drop t = clsAt cs t :: cs.drop (t + 1) := by
  rw [List.drop_eq_getElem_cons h]
  congr 1
  unfold clsAt
  rw [nth_eq, List.getElem?_eq_getElem h]; try rfl

theorem KDM.skip {K : Fr → Heap → Prop} {h : Bool} {F : Fr} {σ : Heap} (hle : cs.length ≤ ops.length) : ∀ (n t : Nat), t + n ≤ cs.length → (∀ k, t ≤ k → k < t + n → hdB cs k = true) → KDM C ops σ0 ρ K h (cs.drop t) (ops.drop t) F σ → KDM C ops σ0 ρ K h (cs.drop (t + n)) (ops.drop (t + n)) F σ
  | 0, t, _, _, hk => hk
  | n + 1, t, ht, hh, hk => by
    have h1 : t < cs.length := by omega
    have h2 : t < ops.length := by omega
    rw [getI_drop_cls h1, List.drop_eq_getElem_cons h2] at hk
    unfold KDM at hk
    have h3 : Nat.ble (clsAt cs t) 1 = true := hh t (Nat.le_refl _) (by omega)
    rw [h3] at hk
    have := KDM.skip hle n (t + 1) (by omega) (fun k hk1 hk2 => hh k (by omega) (by omega)) hk
    rwa [show t + (n + 1) = t + 1 + n by omega]

theorem Own.take {E : Env} {σ τ : Heap} {w : World} (h : Own E σ w) (hn : (keys τ).Nodup) (hs : ∀ p ∈ τ, p ∈ σ) : Own E τ w := h.sub ⟨hs, hn⟩

theorem InvM.low {gs : Nat → Bool} {vs : Nat → Value} {frm F : Fr} {a0 a : Act} {K : Fr → Heap → Prop} {L : Array Bool} {w : World} {t i s : Nat} {h : Bool} {σ : Heap} {o : Oper} (hC : ChkM ops cs) (hI : InvM C ops σ0 ρ cs gs vs frm a0 K L a w t h F σ) (hi : i < cs.length) (ho : ops[i]? = some o) (hun : L.getD i false = false)
    (hn : s ∈ namesOf ops o ∨ o.dst = some s) : ∀ k ok, L.getD k false = true → ops[k]? = some ok → ok.dst = some s → k < i ∧ Bef ops k i := fun k ok hk hok hks => by
  have hkm : k < cs.length := by
    rcases Nat.lt_or_ge k cs.length with h | h
    · exact h
    · rw [hI.pre k h] at hk; cases hk
  have hne : i ≠ k := fun e => by subst e; rw [hun] at hk; cases hk
  have h1 := hC.pair i o k ok s hi hkm ho hok hks hne hn
  by_cases hlt : k < i
  · rw [if_pos hlt] at h1; exact ⟨hlt, h1⟩
  · rw [if_neg hlt] at h1
    have := h1.listed hI.closed hk
    rw [hun] at this; cases this

/-- One that comes ahead of a quiet one is quiet. -/
theorem ChkM.bef_head (hC : ChkM ops cs) {k i : Nat} (h : Bef ops k i) : i < cs.length → hdB cs i = true → hdB cs k = true := by
  obtain ⟨n, hn⟩ := h
  have key : ∀ n i, BefN ops n k i → i < cs.length → hdB cs i = true → hdB cs k = true := by
    intro n
    induction n with
    | zero => rintro i ⟨o, h, hk⟩ hi hh; exact hC.head i o hi h hh k hk
    | succ n ih =>
      rintro i ⟨o, j, h, hj, hk⟩ hi hh
      have := hC.low i o h j hj
      exact ih j hk (by omega) (hC.head i o hi h hh j hj)
  exact key n i hn

/-- The slots that an operation names hold what the canonical order says. -/
theorem InvM.namesH {gs : Nat → Bool} {vs : Nat → Value} {frs : Nat → Fr} {frm F : Fr} {a0 a : Act} {K : Fr → Heap → Prop} {L : Array Bool} {w : World} {t i : Nat} {h : Bool} {σ : Heap} {o : Oper} (hC : ChkM ops cs) (hR : RunH C ops σ0 ρ cs gs vs frs) (h0 : LOk (look (frs 0)) a0) (hI : InvM C ops σ0 ρ cs gs vs frm a0 K L a w t h F σ) (hi : i < cs.length)
    (hh : hdB cs i = true) (ho : ops[i]? = some o) (hun : L.getD i false = false) (hd : ∀ j ∈ depsOf o, L.getD j false = true) : LOk (LR (namesOf ops o) (look (frs i))) a := by
  intro s g v hs
  obtain ⟨hn, hl⟩ := LR_some hs
  have hlow := hI.low hC hi ho hun (.inl hn)
  rcases hR.src hC.le i (by omega) s g v hl with ⟨k, ok, a1, a0', a2, a3, rfl, rfl, a6⟩ | ⟨a1, a2⟩
  · have h1 := hC.pair i o k ok s hi (by omega) ho a2 a3 (by omega) (.inl hn)
    rw [if_pos a1] at h1
    refine hI.wrote s k ok a0' (h1.listed' hI.closed ho hd) a2 a3 (fun k' o' hk' ho' hs' => ?_)
    obtain ⟨b1, b2⟩ := hlow k' o' hk' ho' hs'
    have b3 := hC.bef_head b2 hi hh
    exact ⟨b3, a6 k' o' b1 b3 ho' hs'⟩
  · rw [hI.kept s (fun k ok hk hok' hks => by
      obtain ⟨b1, b2⟩ := hlow k ok hk hok' hks
      exact a1 k ok b1 (hC.bef_head b2 hi hh) hok' hks)]
    exact h0 s g v a2
theorem InvM.namesM {gs : Nat → Bool} {vs : Nat → Value} {frs : Nat → Fr} {F : Fr} {a0 a : Act} {K : Fr → Heap → Prop} {L : Array Bool} {w : World} {t i : Nat} {h : Bool} {σ : Heap} {o : Oper} (hC : ChkM ops cs) (hR : RunH C ops σ0 ρ cs gs vs frs) (h0 : LOk (look (frs 0)) a0) (hI : InvM C ops σ0 ρ cs gs vs (frs cs.length) a0 K L a w t h F σ) (hi : i < cs.length)
    (hh : hdB cs i = false) (ho : ops[i]? = some o) (hun : L.getD i false = false) (hd : ∀ j ∈ depsOf o, L.getD j false = true) : LOk (LR (namesOf ops o) (look F)) a := by
  intro s g v hs
  obtain ⟨hn, hl⟩ := LR_some hs
  have hlow := hI.low hC hi ho hun (.inl hn)
  by_cases hw : ∃ k ok, hdB cs k = false ∧ L.getD k false = true ∧ ops[k]? = some ok ∧ ok.dst = some s
  · obtain ⟨k, ok, b1, b2, b3, b4⟩ := hw
    exact hI.midw s k ok g v b1 b2 b3 b4 hl
  · have hno : ∀ k ok, hdB cs k = false → L.getD k false = true → ops[k]? = some ok → ok.dst ≠ some s := fun k ok b1 b2 b3 b4 => hw ⟨k, ok, b1, b2, b3, b4⟩
    have hhd : ∀ k ok, L.getD k false = true → ops[k]? = some ok → ok.dst = some s → hdB cs k = true := fun k ok b2 b3 b4 => by
      cases e : hdB cs k with
      | true => rfl
      | false => exact absurd b4 (hno k ok e b2 b3)
    rw [hI.midn s hno] at hl
    rcases hR.src hC.le cs.length (Nat.le_refl _) s g v hl with ⟨k, ok, a1, a0', a2, a3, rfl, rfl, a6⟩ | ⟨a1, a2⟩
    · have hne : i ≠ k := fun e => by subst e; rw [hh] at a0'; cases a0'
      have h1 := hC.pair i o k ok s hi (by omega) ho a2 a3 hne (.inl hn)
      have hki : k < i := by
        by_cases e : k < i
        · exact e
        · rw [if_neg e] at h1
          have := hC.bef_head h1 a1 a0'
          rw [hh] at this; cases this
      rw [if_pos hki] at h1
      exact hI.wrote s k ok a0' (h1.listed' hI.closed ho hd) a2 a3 (fun k' o' hk' ho' hs' => by
        have b3 := hhd k' o' hk' ho' hs'
        have b1 := hlow k' o' hk' ho' hs'
        exact ⟨b3, a6 k' o' (by omega) b3 ho' hs'⟩)
    · rw [hI.kept s (fun k ok hk hok' hks => by
        have b3 := hhd k ok hk hok' hks
        have b1 := hlow k ok hk hok' hks
        exact a1 k ok (by omega) b3 hok' hks)]
      exact h0 s g v a2

theorem look_push {d : Option Nat} {g : Bool} {v : Value} {F : Fr} {s : Nat} : look (pushFr d g v F) s = if d = some s then some (g, v) else look F s := by
  cases d with
  | none => simp [pushFr]
  | some d =>
    simp only [pushFr]
    by_cases e : d = s
    · subst e
      simp only [if_true]
      unfold look
      simp
    · have : (some d = some s) = False := by simp [e]
      simp only [this, if_false]
      have hb : Nat.beq d s = false := by
        cases hb : Nat.beq d s with
        | false => rfl
        | true => exact absurd (Nat.eq_of_beq_eq_true hb) e
      conv => lhs; unfold look
      rw [hb]; try rfl

theorem Defs.put {σ : Heap} {a : Act} {w : World} {d : Option Nat} {v : Value} (h : Defs C σ a w) : Defs C σ (a.put d v) w := by
  obtain ⟨dl, h1, h2, h3⟩ := h
  exact ⟨dl, by cases d <;> exact h1, h2, h3⟩

theorem InvM.nextH {gs : Nat → Bool} {vs : Nat → Value} {frm F : Fr} {a0 a : Act} {K : Fr → Heap → Prop} {L : Array Bool} {w w' : World} {t i : Nat} {h : Bool} {σ : Heap} {o : Oper} (hC : ChkM ops cs) (hI : InvM C ops σ0 ρ cs gs vs frm a0 K L a w t h F σ) (hi : i < cs.length) (hh : hdB cs i = true) (ho : ops[i]? = some o) (hun : L.getD i false = false)
    (hd : ∀ j ∈ depsOf o, L.getD j false = true) (hok : okDst C.N o.dst = true) (hb : Below w.heap.size w w') : InvM C ops σ0 ρ cs gs vs frm a0 K (L.setIfInBounds i true) (a.put o.dst (gv (gs i) (vs i))) w' t h F σ := by
  have hil : i < L.size := by rw [hI.size]; exact (List.getElem?_eq_some_iff.1 ho).1
  have hst := Stp.of_below hb hI.own.has
  have hlow : ∀ s, o.dst = some s → ∀ k ok, L.getD k false = true → ops[k]? = some ok → ok.dst = some s → k < i ∧ Bef ops k i := fun s his => hI.low hC hi ho hun (.inr his)
  have hset : ∀ k, L.getD k false = true → (L.setIfInBounds i true).getD k false = true := fun k hk => by rw [getD_set hil]; split <;> simp_all
  refine ⟨by simpa using hI.size, fun k ok hk hl j hj => ?_, fun k hk => ?_, by rw [put_size]; exact hI.n, hI.tle, fun k hk hm => ?_, hI.hard, fun s k ok hkh hl hk hks hmax => ?_, fun s k ok g v hkh hl hk hks hF => ?_, fun s hno => ?_, fun s hno => ?_, hI.own.step hst, (hI.defs.step hst).put, hI.hid.step hst, hI.st, hI.go⟩
  · rw [getD_set hil] at hl ⊢
    by_cases e : j = i
    · rw [if_pos e]
    · rw [if_neg e]
      by_cases e2 : k = i
      · subst e2; rw [ho] at hk; rw [← Option.some.inj hk] at hj; exact hd j hj
      · rw [if_neg e2] at hl; exact hI.closed k ok hk hl j hj
  · rw [getD_set hil, if_neg (by omega)]; exact hI.pre k hk
  · rw [getD_set hil, if_neg (fun e => by subst e; rw [hh] at hm; cases hm)]; exact hI.mids k hk hm
  · rw [okDst_put hI.n hok]
    by_cases e2 : k = i
    · subst e2
      rw [ho] at hk
      rw [Option.some.inj hk, if_pos hks]
    · rw [getD_set hil, if_neg e2] at hl
      have hne : o.dst ≠ some s := fun his => by
        have h1 := (hlow s his k ok hl hk hks).1
        have h2 := hmax i o (by rw [getD_set hil, if_pos rfl]) ho his
        omega
      rw [if_neg hne]
      exact hI.wrote s k ok hkh hl hk hks (fun k' o' hl' hk' hs' => hmax k' o' (hset k' hl') hk' hs')
  · have e2 : k ≠ i := fun e => by subst e; rw [hh] at hkh; cases hkh
    rw [getD_set hil, if_neg e2] at hl
    rw [okDst_put hI.n hok]
    have hne : o.dst ≠ some s := fun his => by
      have h1 := (hlow s his k ok hl hk hks).2
      have := hC.bef_head h1 hi hh
      rw [hkh] at this; cases this
    rw [if_neg hne]
    exact hI.midw s k ok g v hkh hl hk hks hF
  · exact hI.midn s (fun k ok hkh hl hk => hno k ok hkh (hset k hl) hk)
  · rw [okDst_put hI.n hok, if_neg (hno i o (by rw [getD_set hil, if_pos rfl]) ho)]
    exact hI.kept s (fun k ok hl hk => hno k ok (hset k hl) hk)

theorem InvM.atM {gs : Nat → Bool} {vs : Nat → Value} {frm F : Fr} {a0 a : Act} {K : Fr → Heap → Prop} {L : Array Bool} {w : World} {t i : Nat} {h : Bool} {σ : Heap} {o : Oper} (hC : ChkM ops cs) (hI : InvM C ops σ0 ρ cs gs vs frm a0 K L a w t h F σ) (hi : i < cs.length) (hh : hdB cs i = false) (ho : ops[i]? = some o) (hun : L.getD i false = false)
    (hd : ∀ j ∈ depsOf o, L.getD j false = true) : t ≤ i ∧ (∀ k, t ≤ k → k < i → hdB cs k = true) ∧ KDM C ops σ0 ρ K h (cs.drop i) (ops.drop i) F σ := by
  have hti : t ≤ i := by
    rcases Nat.lt_or_ge i t with e | e
    · have := (hI.mids i hi hh).2 e
      rw [hun] at this; cases this
    · exact e
  have hhd : ∀ k, t ≤ k → k < i → hdB cs k = true := fun k hk1 hk2 => by
    cases e : hdB cs k with
    | true => rfl
    | false =>
      have h1 := hC.chain i k hi hh e hk2
      have h2 := h1.listed' hI.closed ho hd
      have := (hI.mids k (by omega) e).1 h2
      omega
  refine ⟨hti, hhd, ?_⟩
  have := KDM.skip hC.le (i - t) t (by omega) (fun k h1 h2 => hhd k h1 (by omega)) hI.go
  rwa [show t + (i - t) = i by omega] at this

theorem InvM.nextM {gs : Nat → Bool} {vs : Nat → Value} {frm F : Fr} {a0 a : Act} {K : Fr → Heap → Prop} {L : Array Bool} {w w' : World} {t i : Nat} {h : Bool} {σ σ' : Heap} {o : Oper} {g : Bool} {v : Value} (hI : InvM C ops σ0 ρ cs gs vs frm a0 K L a w t h F σ) (hi : i < cs.length) (hh : hdB cs i = false) (ho : ops[i]? = some o)
    (hd : ∀ j ∈ depsOf o, L.getD j false = true) (hok : okDst C.N o.dst = true) (hti : t ≤ i) (hhd : ∀ k, t ≤ k → k < i → hdB cs k = true) (hs : Stp σ σ' w w')
    (hst' : ∀ p ∈ hSel σ0 ρ (if h || Nat.beq (clsAt cs i) 3 then 1 else 0), p ∈ σ') (hgo : KDM C ops σ0 ρ K (h || Nat.beq (clsAt cs i) 3) (cs.drop (i + 1)) (ops.drop (i + 1)) (pushFr o.dst g v F) σ') :
    InvM C ops σ0 ρ cs gs vs frm a0 K (L.setIfInBounds i true) (a.put o.dst (gv g v)) w' (i + 1) (h || Nat.beq (clsAt cs i) 3) (pushFr o.dst g v F) σ' := by
  have hil : i < L.size := by rw [hI.size]; exact (List.getElem?_eq_some_iff.1 ho).1
  have hset : ∀ k, L.getD k false = true → (L.setIfInBounds i true).getD k false = true := fun k hk => by rw [getD_set hil]; split <;> simp_all
  have hseti : (L.setIfInBounds i true).getD i false = true := by rw [getD_set hil, if_pos rfl]
  refine ⟨by simpa using hI.size, fun k ok hk hl j hj => ?_, fun k hk => ?_, by rw [put_size]; exact hI.n, by omega, fun k hk hm => ?_, fun he => ?_, fun s k ok hkh hl hk hks hmax => ?_, fun s k ok g' v' hkh hl hk hks hF => ?_, fun s hno => ?_, fun s hno => ?_, hI.own.step hs, (hI.defs.step hs).put, hI.hid.step hs, hst', hgo⟩
  · rw [getD_set hil] at hl ⊢
    by_cases e : j = i
    · rw [if_pos e]
    · rw [if_neg e]
      by_cases e2 : k = i
      · subst e2; rw [ho] at hk; rw [← Option.some.inj hk] at hj; exact hd j hj
      · rw [if_neg e2] at hl; exact hI.closed k ok hk hl j hj
  · rw [getD_set hil, if_neg (by omega)]; exact hI.pre k hk
  · rw [getD_set hil]
    by_cases e : k = i
    · subst e; simp
    · rw [if_neg e, hI.mids k hk hm]
      constructor
      · intro h1; omega
      · intro h1
        rcases Nat.lt_or_ge k t with h2 | h2
        · exact h2
        · have := hhd k h2 (by omega)
          rw [hm] at this; cases this
  · cases hhb : h with
    | true => obtain ⟨j, h1, h2⟩ := hI.hard hhb; exact ⟨j, by omega, h2⟩
    | false =>
      rw [hhb, Bool.false_or] at he
      exact ⟨i, by omega, Nat.eq_of_beq_eq_true he⟩
  · rw [okDst_put hI.n hok]
    have e2 : k ≠ i := fun e => by subst e; rw [hh] at hkh; cases hkh
    rw [getD_set hil, if_neg e2] at hl
    have hne : o.dst ≠ some s := fun his => by
      have h2 := (hmax i o hseti ho his).1
      rw [hh] at h2; cases h2
    rw [if_neg hne]
    exact hI.wrote s k ok hkh hl hk hks (fun k' o' hl' hk' hs' => hmax k' o' (hset k' hl') hk' hs')
  · rw [okDst_put hI.n hok]
    rw [look_push] at hF
    by_cases e : o.dst = some s
    · rw [if_pos e] at hF ⊢
      simp only [Option.some.injEq, Prod.mk.injEq] at hF
      obtain ⟨rfl, rfl⟩ := hF
      rfl
    · rw [if_neg e] at hF ⊢
      have e2 : k ≠ i := fun e3 => by subst e3; rw [ho] at hk; rw [Option.some.inj hk] at e; exact e hks
      rw [getD_set hil, if_neg e2] at hl
      exact hI.midw s k ok g' v' hkh hl hk hks hF
  · rw [look_push, if_neg (hno i o hh hseti ho)]
    exact hI.midn s (fun k ok hkh hl hk => hno k ok hkh (hset k hl) hk)
  · rw [okDst_put hI.n hok, if_neg (hno i o hseti ho)]
    exact hI.kept s (fun k ok hl hk => hno k ok (hset k hl) hk)

theorem KDM.done {K : Fr → Heap → Prop} {h : Bool} {F : Fr} {σ : Heap} {l : List Oper} (hk : KDM C ops σ0 ρ K h [] l F σ) : K F σ := by
  unfold KDM at hk; exact hk

theorem tail_any {m : Nat} (hlow : ∀ i o, ops[i]? = some o → ∀ j ∈ depsOf o, j < i) (htail : ∀ i o k, m ≤ i → ops[i]? = some o → k < i → Bef ops k i) : ∀ (f t : Nat) (L : Array Bool) (a : Act) (w : World), f + t = ops.length → m ≤ t → L.size = ops.length → (∀ k, L.getD k false = decide (k < t)) →
    wpListIn (fnc C.r) 0 C.P ops.toArray (lift C Q) (ops.drop t) a w → wpAnyIn (fnc C.r) 0 C.P .any ops.toArray (lift C Q) f L a w
  | 0, t, L, a, w, hf, hm, hs, hL, h => by
    have ht : t = ops.length := by omega
    subst ht
    refine ⟨List.eq_nil_iff_forall_not_mem.2 fun i hi => ?_, by simpa [wpListIn] using h⟩
    obtain ⟨h1, o, ho, _⟩ := mem_ready' hi
    have := hL i
    rw [getD_tf h1] at this
    have hlt := (List.getElem?_eq_some_iff.1 ho).1
    simp [hlt] at this
  | f + 1, t, L, a, w, hf, hm, hs, hL, h => by
    have ht : t < ops.length := by omega
    have ho : ops[t]? = some ops[t] := List.getElem?_eq_getElem ht
    have hun : L.getD t true = false := getD_ft (by omega) (by rw [hL]; simp)
    have hrdy : t ∈ Region.ready .any ops.toArray L := ready_of hun ho (fun j hj => by rw [hL]; have := hlow t _ ho j hj; simpa using this)
    refine ⟨(fun he => by rw [he] at hrdy; cases hrdy), fun i hi => ?_⟩
    obtain ⟨h1, o, hoi, hd⟩ := mem_ready' hi
    have hc : ∀ i o, ops[i]? = some o → L.getD i false = true → ∀ j ∈ depsOf o, L.getD j false = true := fun i o ho' hl j hj => by
      rw [hL] at hl ⊢
      have := hlow i o ho' j hj
      simp only [decide_eq_true_eq] at hl ⊢
      omega
    have hit : i = t := by
      have hge : t ≤ i := by
        have := hL i
        rw [getD_tf h1] at this
        simpa using this.symm
      by_cases e : i = t
      · exact e
      · have hb := htail i o t (by omega) hoi (by omega)
        have := hb.listed' hc hoi hd
        rw [hL] at this
        simp at this
    subst hit
    have e : ops.drop i = ops[i] :: ops.drop (i + 1) := List.drop_eq_getElem_cons ht
    rw [e] at h
    unfold wpListIn at h
    unfold wpOpIn
    simp only [List.getElem?_toArray, ho]
    have hnext : ∀ a' w', wpListIn (fnc C.r) 0 C.P ops.toArray (lift C Q) (ops.drop (i + 1)) a' w' → wpAnyIn (fnc C.r) 0 C.P .any ops.toArray (lift C Q) f (L.setIfInBounds i true) a' w' := fun a' w' h' => by
      refine tail_any hlow htail f (i + 1) _ a' w' (by omega) (by omega) (by simpa using hs) (fun k => ?_) h'
      rw [getD_set (by omega), hL]
      by_cases e : k = i
      · subst e; simp
      · simp only [e, if_false]; congr 1; apply propext; omega
    split at h
    · rename_i hw; rw [if_pos hw]; exact Oper.wpIn_mono hnext h
    · rename_i hw; rw [if_neg hw]; exact ⟨h.1, hnext _ _ h.2⟩

theorem any_midG {KT : Fr → Heap → Prop} {gs : Nat → Bool} {vs : Nat → Value} {frs : Nat → Fr} {a0 : Act} (hC : ChkM ops cs) (hR : RunH C ops σ0 ρ cs gs vs frs) (h0 : LOk (look (frs 0)) a0) (hn0 : (keys σ0).Nodup) (hnρ : (keys ρ).Nodup) (hρ : ∀ p ∈ ρ, p ∈ σ0)
    (hK : ∀ (L : Array Bool) (a : Act) (w : World) (F : Fr) (σ : Heap), L.size = ops.length → (∀ k, L.getD k false = decide (k < cs.length)) → KT F σ → St C F σ a w → wpAnyIn (fnc C.r) 0 C.P .any ops.toArray (lift C Q) (ops.length - cs.length) L a w) : ∀ (f c : Nat) (L : Array Bool) (a : Act) (w : World) (t : Nat) (h : Bool) (F : Fr) (σ : Heap),
    c = ((List.range cs.length).filter fun i => !L.getD i false).length → f = c + (ops.length - cs.length) → InvM C ops σ0 ρ cs gs vs (frs cs.length) a0 KT L a w t h F σ → wpAnyIn (fnc C.r) 0 C.P .any ops.toArray (lift C Q) f L a w
  | f, 0, L, a, w, t, h, F, σ, hc, hf, hI => by
    have hall : ∀ i, i < cs.length → L.getD i false = true := fun i hi => by
      have he : ((List.range cs.length).filter fun i => !L.getD i false) = [] := List.eq_nil_of_length_eq_zero hc.symm
      have := (List.filter_eq_nil_iff.1 he) i (List.mem_range.2 hi)
      simpa using this
    have hle := hC.le
    have hf2 : f = ops.length - cs.length := by omega
    subst hf2
    have hgo : KT F σ := by
        have hk := KDM.skip hC.le (cs.length - t) t (by have := hI.tle; omega) (fun k hk1 hk2 => by
          cases e : hdB cs k with
          | true => rfl
          | false =>
            have hlt : k < cs.length := by omega
            have := (hI.mids k hlt e).1 (hall k hlt)
            omega) hI.go
        have e1 : t + (cs.length - t) = cs.length := by have := hI.tle; omega
        rw [e1, List.drop_length] at hk
        exact hk.done
    refine hK L a w F σ hI.size (fun k => ?_) hgo ?_
    · by_cases hk : k < cs.length
      · simp [hall k hk, hk]
      · simp [hI.pre k (by omega), hk]
    · refine ⟨hI.n, fun s g v hl => ?_, hI.own, hI.defs, hI.hid⟩
      by_cases hw : ∃ k ok, hdB cs k = false ∧ L.getD k false = true ∧ ops[k]? = some ok ∧ ok.dst = some s
      · obtain ⟨k, ok, b1, b2, b3, b4⟩ := hw
        exact hI.midw s k ok g v b1 b2 b3 b4 hl
      · have hno : ∀ k ok, hdB cs k = false → L.getD k false = true → ops[k]? = some ok → ok.dst ≠ some s := fun k ok b1 b2 b3 b4 => hw ⟨k, ok, b1, b2, b3, b4⟩
        have hhd : ∀ k ok, L.getD k false = true → ops[k]? = some ok → ok.dst = some s → hdB cs k = true := fun k ok b2 b3 b4 => by
          cases e : hdB cs k with
          | true => rfl
          | false => exact absurd b4 (hno k ok e b2 b3)
        have hlt : ∀ k, L.getD k false = true → k < cs.length := fun k hk => by
          rcases Nat.lt_or_ge k cs.length with h | h
          · exact h
          · rw [hI.pre k h] at hk; cases hk
        rw [hI.midn s hno] at hl
        rcases hR.src hC.le cs.length (Nat.le_refl _) s g v hl with ⟨k, ok, a1, a0', a2, a3, rfl, rfl, a6⟩ | ⟨a1, a2⟩
        · exact hI.wrote s k ok a0' (hall k a1) a2 a3 (fun k' o' hk' ho' hs' => by
            have b3 := hhd k' o' hk' ho' hs'
            exact ⟨b3, a6 k' o' (hlt k' hk') b3 ho' hs'⟩)
        · rw [hI.kept s (fun k ok hk hok' hks => a1 k ok (hlt k hk) (hhd k ok hk hok' hks) hok' hks)]
          exact h0 s g v a2
  | 0, c + 1, L, a, w, t, h, F, σ, hc, hf, hI => by omega
  | f + 1, c + 1, L, a, w, t, h, F, σ, hc, hf, hI => by
    have hle := hC.le
    obtain ⟨u, hu, hun⟩ : ∃ u, u < cs.length ∧ L.getD u false = false := by
      have : ((List.range cs.length).filter fun i => !L.getD i false) ≠ [] := fun e => by rw [e] at hc; simp at hc
      obtain ⟨u, hu⟩ := List.exists_mem_of_ne_nil _ this
      rw [List.mem_filter] at hu
      exact ⟨u, List.mem_range.1 hu.1, by simpa using hu.2⟩
    have hhead : ∀ i ∈ Region.ready .any ops.toArray L, i < cs.length := fun i hi => by
      obtain ⟨h1, o, ho, hd⟩ := mem_ready' hi
      rcases Nat.lt_or_ge i cs.length with h | h
      · exact h
      · have hb := hC.tail i o u h ho hu
        have := hb.listed' hI.closed ho hd
        rw [hun] at this; cases this
    refine ⟨fun he => ?_, fun i hi => ?_⟩
    · exfalso
      have key : ∀ n u, u < n → u < cs.length → L.getD u false = false → False := by
        intro n
        induction n with
        | zero => intro u hu; omega
        | succ n ih =>
          intro u hu hum hun
          have ho : ops[u]? = some ops[u] := List.getElem?_eq_getElem (by omega)
          by_cases hd : ∀ j ∈ depsOf ops[u], L.getD j false = true
          · have := ready_of (getD_ft (by rw [hI.size]; omega) hun) ho hd
            rw [he] at this; cases this
          · obtain ⟨j, hj⟩ := Classical.not_forall.1 hd
            obtain ⟨hj1, hj2⟩ := Classical.not_imp.1 hj
            have := hC.low u _ ho j hj1
            exact ih j (by omega) (by omega) (by simpa using hj2)
      exact key (u + 1) u (by omega) hu hun
    · have him := hhead i hi
      obtain ⟨h1, o, ho, hd⟩ := mem_ready' hi
      have hun' := getD_tf h1
      have hcnt : c = ((List.range cs.length).filter fun k => !(L.setIfInBounds i true).getD k false).length := by
        have hil : i < L.size := by rw [hI.size]; exact (List.getElem?_eq_some_iff.1 ho).1
        have e1 : ((List.range cs.length).filter fun k => !(L.setIfInBounds i true).getD k false) = ((List.range cs.length).filter fun k => !L.getD k false).filter (fun k => k != i) := by
          rw [List.filter_filter]
          apply List.filter_congr
          intro k _
          rw [getD_set hil]
          by_cases e : k = i
          · subst e; simp
          · simp [e]
        have hmem : i ∈ (List.range cs.length).filter fun k => !L.getD k false := List.mem_filter.2 ⟨List.mem_range.2 him, by simpa using hun'⟩
        have hnd : ((List.range cs.length).filter fun k => !L.getD k false).Nodup := List.nodup_range.filter _
        rw [e1, ← hnd.erase_eq_filter, List.length_erase_of_mem hmem]
        omega
      unfold wpOpIn
      simp only [List.getElem?_toArray, ho]
      cases hh : hdB cs i with
      | true =>
        obtain ⟨g1, g2, g3, g4⟩ := (hR.at_ i o him ho).yes hh
        have hL := hI.namesH hC hR h0 him hh ho hun' hd
        have hown : Own C.E (hSel σ0 ρ (clsAt cs i)) w := by
          cases hcl : clsAt cs i with
          | zero =>
            cases hhb : h with
            | false =>
              have := hI.st
              rw [hhb] at this
              exact hI.own.take hn0 (fun p hp => this p hp)
            | true =>
              obtain ⟨j, j1, j2⟩ := hI.hard hhb
              have hjl : j < cs.length := by have := hI.tle; omega
              have hjh : hdB cs j = false := by unfold hdB; rw [j2]; rfl
              have := (hC.early j i hjl j2 him hcl).listed hI.closed ((hI.mids j hjl hjh).2 j1)
              rw [hun'] at this; cases this
          | succ n =>
            have := hI.st
            refine hI.own.take hnρ (fun p hp => ?_)
            cases hhb : h with
            | true => rw [hhb] at this; exact this p hp
            | false => rw [hhb] at this; exact this p (hρ p hp)
        have hnext : ∀ w', Below w.heap.size w w' → wpAnyIn (fnc C.r) 0 C.P .any ops.toArray (lift C Q) f (L.setIfInBounds i true) (a.put o.dst (gv (gs i) (vs i))) w' := fun w' hb =>
          any_midG hC hR h0 hn0 hnρ hρ hK f c _ _ w' t h F σ hcnt (by omega) (hI.nextH hC him hh ho hun' hd g2 hb)
        have hw : Region.wanted o (yielded ops.toArray a.tmps) = gs i := by
          rcases g1 with g1 | g1
          · exact guardOf_ok hL g1
          · exact guardIn_ok hL g1
        rw [hw]
        cases hgi : gs i with
        | true =>
          rw [if_pos rfl]
          rw [hgi] at g3
          refine (g3.eff hL hown).wpIn ?_
          rintro x w' ⟨rfl, hb⟩
          have := hnext w' hb
          rw [hgi] at this
          exact this
        | false =>
          rw [if_neg (by simp)]
          refine ⟨fun _ _ => trivial, ?_⟩
          have := hnext w (Below.refl _ _)
          rw [hgi] at this
          exact this
      | false =>
        obtain ⟨hti, hhd, hgo⟩ := hI.atM hC him hh ho hun' hd
        have hL := hI.namesM hC hR h0 him hh ho hun' hd
        have hlt : i < ops.length := by omega
        rw [getI_drop_cls him, List.drop_eq_getElem_cons hlt] at hgo
        unfold KDM at hgo
        have hh' : Nat.ble (clsAt cs i) 1 = false := hh
        rw [hh'] at hgo
        have ho' : ops[i] = o := by
          have : ops[i]? = some ops[i] := List.getElem?_eq_getElem hlt
          rw [this] at ho; exact Option.some.inj ho
        obtain ⟨g, R, k1, k2, k3, k4, k5⟩ := hgo
        rw [ho'] at k1 k2 k3 k5
        have hnext : ∀ v σ' w', R v σ' → Stp σ σ' w w' → wpAnyIn (fnc C.r) 0 C.P .any ops.toArray (lift C Q) f (L.setIfInBounds i true) (a.put o.dst (gv g v)) w' := fun v σ' w' hr hs => by
          obtain ⟨q1, q2⟩ := k5 v σ' hr
          exact any_midG hC hR h0 hn0 hnρ hρ hK f c _ _ w' (i + 1) _ _ σ' hcnt (by omega) (hI.nextM him hh ho hd k2 hti hhd hs q1 q2)
        rw [guardOf_ok hL k1]
        cases hg : g with
        | true =>
          rw [if_pos rfl]
          refine (k3 hg a w hL hI.own).wpIn ?_
          rintro v w' ⟨σ', hr, hs⟩
          have := hnext v σ' w' hr hs
          rw [hg] at this
          exact this
        | false =>
          rw [if_neg (by simp)]
          refine ⟨fun _ _ => trivial, ?_⟩
          have := hnext undef σ w (k4 hg) (Stp.refl hI.own.has)
          rw [hg] at this
          exact this

theorem any_mid {gs : Nat → Bool} {vs : Nat → Value} {frs : Nat → Fr} {a0 : Act} (hC : ChkM ops cs) (hT : ChT ops cs) (hR : RunH C ops σ0 ρ cs gs vs frs) (h0 : LOk (look (frs 0)) a0) (hn0 : (keys σ0).Nodup) (hnρ : (keys ρ).Nodup) (hρ : ∀ p ∈ ρ, p ∈ σ0) : ∀ (f c : Nat) (L : Array Bool) (a : Act) (w : World) (t : Nat) (h : Bool) (F : Fr) (σ : Heap),
    c = ((List.range cs.length).filter fun i => !L.getD i false).length → f = c + (ops.length - cs.length) → InvM C ops σ0 ρ cs gs vs (frs cs.length) a0 (fun fr σ => KO C ops Q (ops.drop cs.length) fr σ) L a w t h F σ → wpAnyIn (fnc C.r) 0 C.P .any ops.toArray (lift C Q) f L a w :=
  any_midG hC hR h0 hn0 hnρ hρ fun L a w F σ hs hL hgo hS => tail_any hC.low hT _ cs.length L a w (by have := hC.le; omega) (Nat.le_refl _) hs hL (hgo a w hS)

def dropL : List Nat → List Oper → Option (List Oper)
  | [], l => some l
  | _ :: cs, _ :: l => dropL cs l
  | _ :: _, [] => none
theorem dropL_ok : ∀ {cs : List Nat} {l tl : List Oper}, dropL cs l = some tl → l.drop cs.length = tl
  | [], l, tl, h => by simp only [dropL, Option.some.injEq] at h; simpa using h
  | _ :: cs, _ :: l, tl, h => by unfold dropL at h; simpa using dropL_ok h
  | _ :: _, [], _, h => by cases h
/-- A statement whose order is open, with effects in it: 'cs' gives the classes of those ahead of what stands behind all; 'js': the blocks that quiet operations of class 1 may read. -/
theorem KW.drawM {id : Nat} {l : List Oper} {fr : Fr} {σ ρ : Heap} (cs js : List Nat) (hc : chkM l cs = true) (hs : selA js σ = some ρ) (hn : nodupB js = true) {tl : List Oper} (ht : dropL cs l = some tl)
    (h : KDH C l σ ρ (fun fr => KDM C l σ ρ (fun fr σ => KO C l Q tl fr σ) false cs l fr σ) cs l fr) : KW C Q (.region id l.toArray true) fr σ := by
  intro a w hS
  have hC := chkM_ok hc
  have hT := chkM_okT hc
  have hle := hC.le
  rw [← dropL_ok ht] at h
  obtain ⟨gs, vs, frs, e1, e2, e3⟩ := KDH.run cs l 0 fr (by simp) hle (by simp) h
  rw [Nat.zero_add] at e3
  have hR : RunH C l σ ρ cs gs vs frs := ⟨fun k o hk ho => e2 k o (Nat.zero_le _) (by omega) ho⟩
  refine wpIn_region_any C.T.mixed ?_
  have hf : ∀ i, (Array.replicate l.toArray.size false).getD i false = false := fun i => by
    rw [Array.getD_eq_getD_getElem?]
    rcases Nat.lt_or_ge i l.length with h | h
    · simp [h]
    · simp [h]
  have hsub := Sl.sub ⟨hs, hn⟩ hS.own.has
  have hid : ∀ i, ¬ (Array.replicate l.toArray.size false).getD i false = true := fun i => by rw [hf]; simp
  refine any_mid hC hT hR (by rw [e1]; exact hS.fr) hS.own.has.nodup hsub.2 hsub.1 _ _ _ a _ 0 false _ σ rfl ?_ ⟨by simp, fun i o ho hl => absurd hl (hid i), fun i _ => hf i, hS.n, Nat.zero_le _, fun i _ _ => ?_, (fun h => by cases h), fun s k o _ hl => absurd hl (hid k), fun s k o g v _ hl => absurd hl (hid k), fun s _ => rfl, fun s _ => rfl, ?_, hS.defs, hS.hid, ?_, e3⟩
  · have e : ((List.range cs.length).filter fun i => !(Array.replicate l.toArray.size false).getD i false) = List.range cs.length := by
      rw [List.filter_eq_self]; intro i _; rw [hf]; rfl
    rw [e]
    simp
    omega
  · rw [hf]; simp
  · exact ⟨hS.own.os, hS.own.tape, hS.own.output, hS.own.size, hS.own.old, ⟨hS.own.has.has, hS.own.has.nodup⟩, hS.own.new⟩
  · exact fun p hp => hp

/-! ### Steps -/
section
variable {K : Fr → Prop} {cs : List Nat} {o : Oper} {rest : List Oper} {fr : Fr} {d : Nat} {g : Bool} {v : Value}
theorem KDH.val0 (hg : guardOf ops (LR (namesOf ops o) (look fr)) o = some g) (hd : o.dst = some d) (hn : Nat.blt d C.N = true) (hq : Qt C (LR (namesOf ops o) (look fr)) σ0 g o v) (h : KDH C ops σ0 ρ K cs rest ((d, g, v) :: fr)) : KDH C ops σ0 ρ K (0 :: cs) (o :: rest) fr := by
  unfold KDH
  exact ⟨g, v, .inl hg, by rw [hd]; exact hn, hq, by rw [hd]; exact h⟩
theorem KDH.val1 (hg : guardOf ops (LR (namesOf ops o) (look fr)) o = some g) (hd : o.dst = some d) (hn : Nat.blt d C.N = true) (hq : Qt C (LR (namesOf ops o) (look fr)) ρ g o v) (h : KDH C ops σ0 ρ K cs rest ((d, g, v) :: fr)) : KDH C ops σ0 ρ K (1 :: cs) (o :: rest) fr := by
  unfold KDH
  exact ⟨g, v, .inl hg, by rw [hd]; exact hn, hq, by rw [hd]; exact h⟩
theorem KDH.valIn0 (hg : guardIn ops (LR (namesOf ops o) (look fr)) o = some g) (hd : o.dst = some d) (hn : Nat.blt d C.N = true) (hq : Qt C (LR (namesOf ops o) (look fr)) σ0 g o v) (h : KDH C ops σ0 ρ K cs rest ((d, g, v) :: fr)) : KDH C ops σ0 ρ K (0 :: cs) (o :: rest) fr := by
  unfold KDH
  exact ⟨g, v, .inr hg, by rw [hd]; exact hn, hq, by rw [hd]; exact h⟩
theorem KDH.valIn1 (hg : guardIn ops (LR (namesOf ops o) (look fr)) o = some g) (hd : o.dst = some d) (hn : Nat.blt d C.N = true) (hq : Qt C (LR (namesOf ops o) (look fr)) ρ g o v) (h : KDH C ops σ0 ρ K cs rest ((d, g, v) :: fr)) : KDH C ops σ0 ρ K (1 :: cs) (o :: rest) fr := by
  unfold KDH
  exact ⟨g, v, .inr hg, by rw [hd]; exact hn, hq, by rw [hd]; exact h⟩
theorem KDH.skip0 (hg : guardOf ops (LR (namesOf ops o) (look fr)) o = some false) (hd : o.dst = some d) (hn : Nat.blt d C.N = true) (h : KDH C ops σ0 ρ K cs rest ((d, false, undef) :: fr)) : KDH C ops σ0 ρ K (0 :: cs) (o :: rest) fr := KDH.val0 hg hd hn (fun _ _ _ _ e => by cases e) h
theorem KDH.skip1 (hg : guardOf ops (LR (namesOf ops o) (look fr)) o = some false) (hd : o.dst = some d) (hn : Nat.blt d C.N = true) (h : KDH C ops σ0 ρ K cs rest ((d, false, undef) :: fr)) : KDH C ops σ0 ρ K (1 :: cs) (o :: rest) fr := KDH.val1 hg hd hn (fun _ _ _ _ e => by cases e) h
theorem KDH.skip0' (hg : guardOf ops (LR (namesOf ops o) (look fr)) o = some g) (hf : g = false) (hd : o.dst = some d) (hn : Nat.blt d C.N = true) (h : KDH C ops σ0 ρ K cs rest ((d, false, undef) :: fr)) : KDH C ops σ0 ρ K (0 :: cs) (o :: rest) fr := by
  subst hf; exact KDH.skip0 hg hd hn h
theorem KDH.skip1' (hg : guardOf ops (LR (namesOf ops o) (look fr)) o = some g) (hf : g = false) (hd : o.dst = some d) (hn : Nat.blt d C.N = true) (h : KDH C ops σ0 ρ K cs rest ((d, false, undef) :: fr)) : KDH C ops σ0 ρ K (1 :: cs) (o :: rest) fr := by
  subst hf; exact KDH.skip1 hg hd hn h
theorem KDH.mid2 (h : KDH C ops σ0 ρ K cs rest fr) : KDH C ops σ0 ρ K (2 :: cs) (o :: rest) fr := by unfold KDH; exact h
theorem KDH.mid3 (h : KDH C ops σ0 ρ K cs rest fr) : KDH C ops σ0 ρ K (3 :: cs) (o :: rest) fr := by unfold KDH; exact h
theorem KDH.done {l : List Oper} (h : K fr) : KDH C ops σ0 ρ K [] l fr := by unfold KDH; exact h
end
section
variable {K : Fr → Heap → Prop} {cs : List Nat} {o : Oper} {rest : List Oper} {fr : Fr} {σ : Heap} {d : Nat} {g hb : Bool} {v : Value} {R : Value → Heap → Prop}
theorem KDM.head0 (h : KDM C ops σ0 ρ K hb cs rest fr σ) : KDM C ops σ0 ρ K hb (0 :: cs) (o :: rest) fr σ := by unfold KDM; exact h
theorem KDM.head1 (h : KDM C ops σ0 ρ K hb cs rest fr σ) : KDM C ops σ0 ρ K hb (1 :: cs) (o :: rest) fr σ := by unfold KDM; exact h
theorem KDM.fin {l : List Oper} (h : K fr σ) : KDM C ops σ0 ρ K hb [] l fr σ := by unfold KDM; exact h
theorem KDM.eo2f (hg : guardOf ops (LR (namesOf ops o) (look fr)) o = some true) (hd : o.dst = some d) (hn : Nat.blt d C.N = true) (he : EO C (LR (namesOf ops o) (look fr)) σ o R)
    (h : ∀ v σ', R v σ' → (∀ p ∈ σ0, p ∈ σ') ∧ KDM C ops σ0 ρ K false cs rest ((d, true, v) :: fr) σ') : KDM C ops σ0 ρ K false (2 :: cs) (o :: rest) fr σ := by
  unfold KDM
  exact ⟨true, R, hg, by rw [hd]; exact hn, fun _ => he, (fun e => by cases e), fun v σ' hr => by rw [hd]; exact h v σ' hr⟩
theorem KDM.eo2t (hg : guardOf ops (LR (namesOf ops o) (look fr)) o = some true) (hd : o.dst = some d) (hn : Nat.blt d C.N = true) (he : EO C (LR (namesOf ops o) (look fr)) σ o R)
    (h : ∀ v σ', R v σ' → (∀ p ∈ ρ, p ∈ σ') ∧ KDM C ops σ0 ρ K true cs rest ((d, true, v) :: fr) σ') : KDM C ops σ0 ρ K true (2 :: cs) (o :: rest) fr σ := by
  unfold KDM
  exact ⟨true, R, hg, by rw [hd]; exact hn, fun _ => he, (fun e => by cases e), fun v σ' hr => by rw [hd]; exact h v σ' hr⟩
theorem KDM.eo3 (hg : guardOf ops (LR (namesOf ops o) (look fr)) o = some true) (hd : o.dst = some d) (hn : Nat.blt d C.N = true) (he : EO C (LR (namesOf ops o) (look fr)) σ o R)
    (h : ∀ v σ', R v σ' → (∀ p ∈ ρ, p ∈ σ') ∧ KDM C ops σ0 ρ K true cs rest ((d, true, v) :: fr) σ') : KDM C ops σ0 ρ K hb (3 :: cs) (o :: rest) fr σ := by
  unfold KDM
  refine ⟨true, R, hg, by rw [hd]; exact hn, fun _ => he, (fun e => by cases e), fun v σ' hr => ?_⟩
  rw [hd]
  have := h v σ' hr
  cases hb <;> exact this
theorem KDM.eo30 (hg : guardOf ops (LR (namesOf ops o) (look fr)) o = some true) (hd : o.dst = none) (he : EO C (LR (namesOf ops o) (look fr)) σ o R)
    (h : ∀ v σ', R v σ' → (∀ p ∈ ρ, p ∈ σ') ∧ KDM C ops σ0 ρ K true cs rest fr σ') : KDM C ops σ0 ρ K hb (3 :: cs) (o :: rest) fr σ := by
  unfold KDM
  refine ⟨true, R, hg, by rw [hd]; rfl, fun _ => he, (fun e => by cases e), fun v σ' hr => ?_⟩
  rw [hd]
  have := h v σ' hr
  cases hb <;> exact this
theorem KDM.q2f {v : Value} (hg : guardOf ops (LR (namesOf ops o) (look fr)) o = some true) (hd : o.dst = some d) (hn : Nat.blt d C.N = true) (hq : Qt C (LR (namesOf ops o) (look fr)) σ true o v) (hs : ∀ p ∈ σ0, p ∈ σ)
    (h : KDM C ops σ0 ρ K false cs rest ((d, true, v) :: fr) σ) : KDM C ops σ0 ρ K false (2 :: cs) (o :: rest) fr σ :=
  KDM.eo2f hg hd hn hq.eo (fun _ _ ⟨h1, h2⟩ => by subst h1 h2; exact ⟨hs, h⟩)
theorem KDM.q2t {v : Value} (hg : guardOf ops (LR (namesOf ops o) (look fr)) o = some true) (hd : o.dst = some d) (hn : Nat.blt d C.N = true) (hq : Qt C (LR (namesOf ops o) (look fr)) σ true o v) (hs : ∀ p ∈ ρ, p ∈ σ)
    (h : KDM C ops σ0 ρ K true cs rest ((d, true, v) :: fr) σ) : KDM C ops σ0 ρ K true (2 :: cs) (o :: rest) fr σ :=
  KDM.eo2t hg hd hn hq.eo (fun _ _ ⟨h1, h2⟩ => by subst h1 h2; exact ⟨hs, h⟩)
end
end
attribute [irreducible] KDH KDM
end Go.K
end
section
namespace Go.K
open Go Go.RowKit Go.ChangeShapes Go.WideShapes Go.ChangeAt

theorem trodAll_stays {H : Type} {enc : TypeId × Value → H} {P : Program} (hl : laidOutB P = true) {W W' : World} {sp : Nat → Bool} (hb : Below W.heap.size W W') : ∀ {ts : List TypeId} {vs : List Value} {ds : List (DataW H)} {ps : List MemPlace},
    (ts.all fun t => P.readableRec t && decide (t < P.types.size)) = true → DataW.TrodAll enc P W 0 (fun _ => true) true ts vs ds ps → (∀ p ∈ ps, sp p.block = true) → (∀ p ∈ ps, p.block < W.heap.size) → DataW.TrodAll enc P W' 0 sp true ts vs ds ps
  | [], [], [], ps, _, h, _, _ => h
  | t :: ts, v :: vs, d :: ds, ps, hts, h, hs, hlt => by
    obtain ⟨p, q, h1, h2, rfl⟩ := h
    simp only [List.all_cons, Bool.and_eq_true, decide_eq_true_eq] at hts
    exact ⟨p, q, WideElems.Trod_stays hl hts.1.1 hts.1.2 h1 (fun x hx => hb.same (hlt x (by simp [hx]))) (fun x hx => hs x (by simp [hx])),
      trodAll_stays hl hb (by simpa using hts.2) h2 (fun x hx => hs x (by simp [hx])) (fun x hx => hlt x (by simp [hx])), rfl⟩
  | [], [], _ :: _, _, _, h, _, _ => h.elim
  | [], _ :: _, _, _, _, h, _, _ => by cases ‹List (DataW H)› <;> exact h.elim
  | _ :: _, [], _, _, _, h, _, _ => by cases ‹List (DataW H)› <;> exact h.elim
  | _ :: _, _ :: _, [], _, _, h, _, _ => h.elim


/-- A law that returned true, and left what it found. -/
theorem law_frame {H : Type} {enc : TypeId × Value → H} {P : Program} {f : Func} {s : ChangeSpec} {apart fresh handsOn again : Bool} {W W' : World} {args : Array Value} {ds gs : List (DataW H)} {before : List MemPlace} {tb : TypeId} (hl : laidOutB P = true)
    (hW : DataW.Whole enc P f.params.toList s.vars apart W args.toList ds gs before) (hv : s.vars = []) (hts : (f.params.toList.all fun t => P.readableRec t && decide (t < P.types.size)) = true) (hr : f.resultTypes = #[tb]) (hbt : P.underlying tb = some .bool)
    (hfn : s.fn H (ds ++ gs) = { results := [.lit (.bool true)], args := ds }) (hb : Below W.heap.size W W') : s.post enc P f apart fresh handsOn again W args (.bool true) W' := by
  have hW0 := hW
  have hlt : ∀ p ∈ before, p.block < W.heap.size := fun p hp => hW.lt p hp
  obtain ⟨p, q, hA, hV, rfl, hz, hn⟩ := hW
  rw [hv] at hV
  have hq : gs = [] ∧ q = [] := by
    cases gs with
    | nil => exact ⟨rfl, hV⟩
    | cons _ _ => exact hV.elim
  obtain ⟨rfl, rfl⟩ := hq
  have hres : ∀ (b : Nat) (sp : Nat → Bool) (hd : Bool), DataW.TrodAll enc P W' b sp hd f.resultTypes.toList ((Value.bool true).resultList f.resultTypes.size) (s.fn H (ds ++ [])).results [] := fun _ _ _ => by
    rw [hfn, hr]; exact trodAll_mk1 (shut_bool hbt true)
  have hargs : ∀ sp : Nat → Bool, (∀ x ∈ p ++ [], sp x.block = true) → DataW.TrodAll enc P W' 0 sp true f.params.toList args.toList (s.fn H (ds ++ [])).args p := fun sp hs => by
    rw [hfn]; exact trodAll_stays hl hb hts hA (fun x hx => hs x (by simpa using hx)) (fun x hx => hlt x (by simpa using hx))
  have hvars : ∀ sp : Nat → Bool, DataW.TrodVars enc P W' sp s.vars (s.fn H (ds ++ [])).vars [] := fun _ => by rw [hfn, hv]; rfl
  have hold : ∀ x ∈ p ++ [], (fun b => decide (b < W.heap.size)) x.block = true := fun x hx => by simpa using hlt x hx
  refine ⟨ds, [], p ++ [], [], p, [], hW0, hres _ _ _, hargs _ hold, hvars _, World.keptBut_mono (fun x hx => ⟨hx, ?_⟩) (hb.frame (· ∈ p ++ [])), fun _ => ?_⟩
  · rw [List.mem_append] at hx
    exact Or.inr hx
  · refine ⟨ok_one hr rfl (okWide_bool_mk hbt true), _, _, ([] ++ p) ++ [], ⟨[] ++ p, [], trodAll_append (hargs _ (fun _ _ => rfl)) (hres _ _ _), hvars _, rfl, ?_, ?_⟩, ?_⟩
    · intro b off hp
      have hp' : MemPlace.cell b off ∈ p ++ [] := by simpa using hp
      rw [hb.frozen (p := ⟨b, off, none⟩) (hlt _ hp')]
      exact hz b off hp'
    · intro ha
      have := hn ha
      simpa using this
    · intro x hx _
      simpa using hx

/-- An aggregate of whole numbers. -/
theorem open_ints {P : Program} {W : World} {r : Reach} {b0 : Nat} {t : TypeId} {v : Value} {n : Nat} {ts : List TypeId} (hu : (match P.underlying t with | some (.struct _) => true | some (.array _ _) => true | _ => false) = true) (hC : P.cellsOf t = n) (hct : P.cellTypes P.depth t = some ts)
    (hi : (ts.all fun u => match P.underlying u with | some (.int .i64) => true | _ => false) = true) (hv : Value.okWide P W r b0 t v) :
    ∃ ns : List Int, ns.length = n ∧ v = .agg (ns.map (Value.int .i64)).toArray ∧ ∀ x ∈ ns, -9223372036854775808 ≤ x ∧ x ≤ 9223372036854775807 := by
  have h : ∃ cs, v = .agg cs ∧ cs.size = P.cellsOf t ∧ Row.okWide P W r b0 t cs := by
    unfold Value.okWide at hv
    cases hd : P.underlying t with
    | none => rw [hd] at hu; cases hu
    | some d => rw [hd] at hu hv; cases d <;> first | exact hv | cases hu
  obtain ⟨cs, rfl, hs, ts', h1, _, h2⟩ := h
  have e : ts' = ts := by rw [hct] at h1; exact (Option.some.inj h1).symm
  subst e
  have key : ∀ (i : Nat) (v : Value), cs[i]? = some v → ∃ x : Int, v = Value.int .i64 x ∧ -9223372036854775808 ≤ x ∧ x ≤ 9223372036854775807 := by
    intro i v hv
    obtain ⟨u, hu1, hu2⟩ := h2 i v hv
    have hu3 := List.all_eq_true.1 hi u (List.mem_of_getElem? hu1)
    cases hd : P.underlying u with
    | none => rw [hd] at hu3; cases hu3
    | some d =>
      rw [hd] at hu3
      cases d with
      | int k =>
        cases k <;> simp at hu3
        unfold Cell.okWide at hu2
        rw [hd] at hu2
        cases v <;> simp [Cell.ok, hd] at hu2
        obtain ⟨rfl, h3, h4⟩ := hu2
        exact ⟨_, rfl, h3, h4⟩
      | _ => cases hu3
  have key2 : ∀ l : List Value, (∀ v ∈ l, ∃ x : Int, v = Value.int .i64 x ∧ -9223372036854775808 ≤ x ∧ x ≤ 9223372036854775807) → ∃ ns : List Int, l = ns.map (Value.int .i64) ∧ ∀ x ∈ ns, -9223372036854775808 ≤ x ∧ x ≤ 9223372036854775807 := by
    intro l
    induction l with
    | nil => exact fun _ => ⟨[], rfl, fun x hx => by cases hx⟩
    | cons v l ih =>
      intro h
      obtain ⟨x, rfl, hx⟩ := h v (by simp)
      obtain ⟨ns, rfl, hn⟩ := ih (fun v hv => h v (by simp [hv]))
      exact ⟨x :: ns, rfl, fun y hy => by rcases List.mem_cons.1 hy with rfl | hy; exact hx; exact hn y hy⟩
  obtain ⟨ns, h3, h4⟩ := key2 cs.toList (fun v hv => by
    obtain ⟨i, hi⟩ := List.mem_iff_getElem?.1 hv
    exact key i v (by simpa using hi))
  refine ⟨ns, ?_, ?_, h4⟩
  · rw [← hC, ← hs, ← Array.length_toList, h3]; simp
  · rw [← h3]
theorem open_ints2 {P : Program} {W : World} {r : Reach} {b0 : Nat} {t : TypeId} {v : Value} {ts : List TypeId} (hu : (match P.underlying t with | some (.struct _) => true | some (.array _ _) => true | _ => false) = true) (hC : P.cellsOf t = 2) (hct : P.cellTypes P.depth t = some ts)
    (hi : (ts.all fun u => match P.underlying u with | some (.int .i64) => true | _ => false) = true) (hv : Value.okWide P W r b0 t v) :
    ∃ x y : Int, v = .agg #[.int .i64 x, .int .i64 y] ∧ (-9223372036854775808 ≤ x ∧ x ≤ 9223372036854775807) ∧ (-9223372036854775808 ≤ y ∧ y ≤ 9223372036854775807) := by
  obtain ⟨ns, h1, h2, h3⟩ := open_ints hu hC hct hi hv
  match ns, h1 with
  | [x, y], _ => exact ⟨x, y, h2, h3 x (by simp), h3 y (by simp)⟩
theorem open_ints4 {P : Program} {W : World} {r : Reach} {b0 : Nat} {t : TypeId} {v : Value} {ts : List TypeId} (hu : (match P.underlying t with | some (.struct _) => true | some (.array _ _) => true | _ => false) = true) (hC : P.cellsOf t = 4) (hct : P.cellTypes P.depth t = some ts)
    (hi : (ts.all fun u => match P.underlying u with | some (.int .i64) => true | _ => false) = true) (hv : Value.okWide P W r b0 t v) :
    ∃ x y z u : Int, v = .agg #[.int .i64 x, .int .i64 y, .int .i64 z, .int .i64 u] ∧ (-9223372036854775808 ≤ x ∧ x ≤ 9223372036854775807) ∧ (-9223372036854775808 ≤ y ∧ y ≤ 9223372036854775807) ∧ (-9223372036854775808 ≤ z ∧ z ≤ 9223372036854775807) ∧ (-9223372036854775808 ≤ u ∧ u ≤ 9223372036854775807) := by
  obtain ⟨ns, h1, h2, h3⟩ := open_ints hu hC hct hi hv
  match ns, h1 with
  | [x, y, z, u], _ => exact ⟨x, y, z, u, h2, h3 x (by simp), h3 y (by simp), h3 z (by simp), h3 u (by simp)⟩
theorem open_i64 {P : Program} {W : World} {r : Reach} {b0 : Nat} {t : TypeId} {v : Value} (hu : P.underlying t = some (.int .i64)) (hv : Value.okWide P W r b0 t v) : ∃ x : Int, v = .int .i64 x ∧ (-9223372036854775808 ≤ x ∧ x ≤ 9223372036854775807) := by
  obtain ⟨n, rfl⟩ := okWide_int hu hv
  simp [Value.okWide, hu, Cell.okWide, Cell.ok] at hv
  exact ⟨n, rfl, hv.1, hv.2⟩
end Go.K
end
section
namespace Go.K
open Go Go.RowKit Go.ChangeShapes Go.WideShapes Go.ChangeAt

/-- What cells of a type hold, where slices lie in what is read alone. -/
def Rd (P : Program) (β : Nat → Option Obj) : Nat → TypeId → List Value → Prop
  | 0, _, _ => False
  | n + 1, t, cs => match P.underlying t with
    | some .bool => ∃ b, cs = [.bool b]
    | some (.int k) => ∃ x, cs = [.int k x] ∧ (Lit.int k x).wf = true
    | some .string => ∃ s : ByteArray, cs = [.string s] ∧ s.size ≤ reachBytes
    | some (.slice e) => ∃ (p : Option Addr) (len cap : Nat) (xs : List Value), cs = [.slice p len cap] ∧ len ≤ cap ∧ cap * P.bytesOf e ≤ reachBytes ∧ cap ≤ maxLen ∧ (p = none → cap = 0) ∧ xs.length = len * P.cellsOf e ∧
        (0 < len * P.cellsOf e → ∃ b off, p = some ⟨b, off, none⟩ ∧ ∀ (j : Nat) (u : Value), xs[j]? = some u → Rc β b (off + j) u) ∧ ∀ i, i < len → Rd P β n e ((xs.drop (i * P.cellsOf e)).take (P.cellsOf e))
    | some (.struct fs) => cs.length = P.cellsOf t ∧ ∀ (i : Nat) (f : Field), fs[i]? = some f → Rd P β n f.type ((cs.drop f.offset).take (P.cellsOf f.type))
    | some (.array m e) => cs.length = P.cellsOf t ∧ ∀ i, i < m → Rd P β n e ((cs.drop (i * P.cellsOf e)).take (P.cellsOf e))
    | _ => True

theorem add_add (a : Addr) (m n : Nat) : (a.add m).add n = a.add (m + n) := by
  unfold Addr.add
  by_cases hm : m = 0
  · subst hm; simp
  · by_cases hn : n = 0
    · subst hn; simp
    · have : ¬ (m + n = 0) := by omega
      simp [hm, hn, Nat.add_assoc]

theorem weights_all {H : Type} {P : Program} {e : TypeId} : ∀ {ds : List (DataW H)} {i : Nat} {d : DataW H}, ds[i]? = some d → ∀ n ∈ d.weights P e, n ∈ DataW.weightsAll P e ds
  | [], i, d, h, n, hn => by simp at h
  | x :: r, 0, d, h, n, hn => by
    simp only [List.getElem?_cons_zero, Option.some.injEq] at h
    subst h
    simp only [DataW.weightsAll, List.mem_append]; exact .inl hn
  | x :: r, i + 1, d, h, n, hn => by
    simp only [List.getElem?_cons_succ] at h
    simp only [DataW.weightsAll, List.mem_append]; exact .inr (weights_all h n hn)

theorem rc_of_cell {w : World} {b off : Nat} {u : Value} (h : w.cell? ⟨b, off, none⟩ = some u) : Rc (fun b => w.heap[b]?) b off u := by
  unfold World.cell? at h
  split at h
  · rename_i c e fz hc
    simp at h
    exact ⟨c, e, fz, hc, h⟩
  · cases h

theorem rd_of_trod {H : Type} {enc : TypeId × Value → H} {P : Program} {w : World} {base : Nat} {held : Bool} : ∀ (fuel : Nat) (t : TypeId) (cs : List Value) (d : DataW H) (ps : List MemPlace),
    DataW.trod enc P w base (fun _ => true) held fuel t cs = some (d, ps) → (∀ n ∈ d.weights P t, n ≤ reachBytes) → Rd P (fun b => w.heap[b]?) fuel t cs
  | 0, t, cs, d, ps, h, _ => by simp [DataW.trod] at h
  | fuel + 1, t, cs, d, ps, h, hw => by
    unfold Rd
    split
    · rename_i hu
      obtain ⟨b, rfl, _⟩ := DataW.trod_bool hu h
      exact ⟨b, rfl⟩
    · rename_i k hu
      obtain ⟨n, rfl, _, hn⟩ := DataW.trod_int hu h
      exact ⟨n, rfl, hn⟩
    · rename_i hu
      obtain ⟨s, rfl, hx, _⟩ := DataW.trod_string hu h
      refine ⟨s, rfl, ?_⟩
      simp only [Prod.mk.injEq] at hx
      have := hw s.data.toList.length (by rw [hx.1]; simp [DataW.weights])
      simpa using this
    · rename_i e hu
      rcases DataW.trod_slice hu h with ⟨rfl, hx⟩ | ⟨a, len, cap, elems, rest, n, hf, rfl, hx, hb, hl, hm, hlen, hel, hsp, _⟩
      · exact ⟨none, 0, 0, [], rfl, Nat.le_refl _, by simp, by simp [maxLen], fun _ => rfl, by simp, fun h => by simp at h, fun i hi => by omega⟩
      · have hn : n = fuel := by omega
        subst hn
        obtain ⟨hrl, _⟩ := hsp rfl
        simp only [Prod.mk.injEq] at hx
        have hd := hx.1
        have hwd : d.weights P t = (elems.length + rest.length) * P.bytesOf e :: (DataW.weightsAll P e (elems.map (·.1)) ++ DataW.weightsAll P e (rest.map (·.1))) := by
          rw [hd]; simp [DataW.weights, hu]
        have each : ∀ i, i < len → ∃ vs y, w.cells? base (a.add (i * P.cellsOf e)) (P.cellsOf e) = some vs ∧ DataW.trod enc P w base (fun _ => true) held n e vs = some y ∧ elems[i]? = some y := fun i hi => by
          have h1 := hel i hi
          have h2 : elems[i]? = some elems[i] := List.getElem?_eq_getElem (by omega)
          rw [h2, Option.bind_eq_some_iff] at h1
          obtain ⟨vs, h3, h4⟩ := h1
          exact ⟨vs, _, h3, h4, h2⟩
        have cellq : ∀ q, q < len * P.cellsOf e → ∃ u, w.cell? (a.add q) = some u := fun q hq => by
          have hc0 : 0 < P.cellsOf e := Nat.pos_of_ne_zero (fun e0 => by rw [e0] at hq; simp at hq)
          have hi : q / P.cellsOf e < len := by rw [Nat.div_lt_iff_lt_mul hc0]; exact hq
          obtain ⟨vs, y, h1, _, _⟩ := each _ hi
          have h2 := (World.cells?_some h1).2.2 (q % P.cellsOf e) (Nat.mod_lt _ hc0)
          rw [add_add, Nat.div_add_mod'] at h2
          have h3 := (World.cells?_some h1).2.1
          rw [List.getElem?_eq_getElem (by rw [h3]; exact Nat.mod_lt _ hc0)] at h2
          exact ⟨_, h2⟩
        let xs : List Value := (List.range (len * P.cellsOf e)).map fun q => (w.cell? (a.add q)).getD undef
        have hxs : ∀ q, q < len * P.cellsOf e → w.cell? (a.add q) = xs[q]? := fun q hq => by
          obtain ⟨u, hu⟩ := cellq q hq
          simp [xs, hq, hu]
        have hxl : xs.length = len * P.cellsOf e := by simp [xs]
        refine ⟨some a, len, cap, xs, rfl, hl, ?_, hm, fun h => by simp at h, hxl, fun h0 => ?_, fun i hi => ?_⟩
        · have := hw _ (by rw [hwd]; exact List.mem_cons_self)
          rw [hlen, hrl] at this
          rwa [show len + (cap - len) = cap by omega] at this
        · obtain ⟨b, off, spot⟩ := a
          obtain ⟨u, hu⟩ := cellq 0 h0
          have hspot : spot = none := by simpa [Addr.add] using World.cell?_spot hu
          subst hspot
          refine ⟨b, off, rfl, fun j u hj => ?_⟩
          have hj' : j < len * P.cellsOf e := by rw [← hxl]; exact (List.getElem?_eq_some_iff.1 hj).1
          refine rc_of_cell ?_
          have := hxs j hj'
          rw [Addr.add_lit] at this
          rw [this, hj]
        · obtain ⟨vs, y, h1, h2, h3⟩ := each i hi
          have e1 : (xs.drop (i * P.cellsOf e)).take (P.cellsOf e) = vs := by
            obtain ⟨_, g2, g3⟩ := World.cells?_some h1
            apply List.ext_getElem?
            intro j
            by_cases hj : j < P.cellsOf e
            · rw [List.getElem?_take_of_lt hj, List.getElem?_drop, ← hxs _ (by
                have : (i + 1) * P.cellsOf e ≤ len * P.cellsOf e := Nat.mul_le_mul_right _ (by omega)
                rw [Nat.add_mul] at this; omega), ← add_add, g3 j hj]
            · rw [List.getElem?_eq_none (by simp; omega), List.getElem?_eq_none (by omega)]
          rw [e1]
          refine rd_of_trod n e vs y.1 y.2 h2 (fun m hm => hw m ?_)
          rw [hwd]
          exact List.mem_cons_of_mem _ (List.mem_append_left _ (weights_all (i := i) (by simp [h3]) m hm))
    · rename_i fs hu
      unfold DataW.trod at h
      rw [hu] at h
      split at h <;> simp_all
      obtain ⟨hl, xs, hp, hd, _⟩ := h
      intro i f hf
      have hy := mapM_some_get hp i f (by simpa using hf)
      have hlt : i < xs.length := by
        rw [mapM_some_length hp]
        simpa using (Array.getElem?_eq_some_iff.1 hf).1
      rw [List.getElem?_eq_getElem hlt] at hy
      refine rd_of_trod fuel f.type _ xs[i].1 xs[i].2 hy (fun m hm => hw m ?_)
      subst hd
      simp only [DataW.weights, hu]
      exact DataW.weights_mem_each (j := i) (t := f.type) (d := xs[i].1) (by simp [hf]) (by simp [hlt]) m hm
    · rename_i m e hu
      unfold DataW.trod at h
      simp only [hu] at h
      split at h
      · rename_i hl
        rw [Option.map_eq_some_iff] at h
        obtain ⟨xs, hp, hd⟩ := h
        simp only [Prod.mk.injEq] at hd
        obtain ⟨hd, _⟩ := hd
        refine ⟨hl, ?_⟩
        intro i hi
        have hy := mapM_some_get hp i i (by simp [hi])
        have hlt : i < xs.length := by
          rw [mapM_some_length hp]
          simpa using hi
        rw [List.getElem?_eq_getElem hlt] at hy
        refine rd_of_trod fuel e _ xs[i].1 xs[i].2 hy (fun m hm => hw m ?_)
        subst hd
        simp only [DataW.weights, hu]
        exact weights_all (i := i) (by simp [hlt]) m hm
      · cases h
    · trivial

def aggT (P : Program) (t : TypeId) : Bool := match P.underlying t with
  | some (.struct _) => true
  | some (.array _ _) => true
  | _ => false
/-- What a value of a type holds. -/
def RdV (P : Program) (β : Nat → Option Obj) (t : TypeId) (v : Value) : Prop := ∃ n cs, Rd P β n t cs ∧ ((aggT P t = true ∧ v = .agg cs.toArray) ∨ (aggT P t = false ∧ cs = [v]))
def RdVs (P : Program) (β : Nat → Option Obj) : List TypeId → List Value → Prop
  | [], [] => True
  | t :: ts, v :: vs => RdV P β t v ∧ RdVs P β ts vs
  | _, _ => False

theorem rdV_of {H : Type} {enc : TypeId × Value → H} {P : Program} {w : World} {base b0 : Nat} {held : Bool} {r : Reach} {t : TypeId} {v : Value} {d : DataW H} {ps : List MemPlace} (hv : Value.okWide P w r b0 t v) (hd : DataW.Trod enc P w base (fun _ => true) held t v d ps)
    (hw : ∀ n ∈ d.weights P t, n ≤ reachBytes) (hk : ∀ q, P.underlying t = some (.interface q) → False) : RdV P (fun b => w.heap[b]?) t v := by
  obtain ⟨fuel, hf⟩ := hd
  refine ⟨fuel, _, rd_of_trod fuel t _ d ps hf hw, ?_⟩
  unfold Value.okWide at hv
  unfold aggT
  cases hu : P.underlying t with
  | none => rw [hu] at hv; simp [Cell.okWide, Cell.ok, hu] at hv
  | some de =>
    rw [hu] at hv
    cases de with
    | struct fs => obtain ⟨cs, rfl, _, _⟩ := hv; exact .inl ⟨rfl, by simp [Value.cells]⟩
    | array m e => obtain ⟨cs, rfl, _, _⟩ := hv; exact .inl ⟨rfl, by simp [Value.cells]⟩
    | interface q => exact (hk q hu).elim
    | _ =>
      refine .inr ⟨rfl, ?_⟩
      cases v <;> first | rfl | (simp [Cell.okWide, Cell.ok, hu] at hv)

theorem rdVs_of {H : Type} {enc : TypeId × Value → H} {P : Program} {w : World} {r : Reach} {b0 : Nat} {held : Bool} : ∀ {ts : List TypeId} {vs : List Value} {ds : List (DataW H)} {ps : List MemPlace}, (ts.all fun t => match P.underlying t with | some (.interface _) => false | _ => true) = true →
    (∀ (j : Nat) (t : TypeId) (v : Value), ts[j]? = some t → vs[j]? = some v → Value.okWide P w r b0 t v) → DataW.TrodAll enc P w 0 (fun _ => true) held ts vs ds ps → (∀ n ∈ DataW.weightsEach P ts ds, n ≤ reachBytes) → RdVs P (fun b => w.heap[b]?) ts vs
  | [], [], [], ps, _, _, _, _ => trivial
  | t :: ts, v :: vs, d :: ds, ps, ht, hv, h, hw => by
    obtain ⟨p, q, h1, h2, rfl⟩ := h
    simp only [List.all_cons, Bool.and_eq_true] at ht
    refine ⟨rdV_of (hv 0 t v rfl rfl) h1 (fun n hn => hw n (by simp [DataW.weightsEach, hn])) (fun q hq => by rw [hq] at ht; simp at ht), ?_⟩
    exact rdVs_of ht.2 (fun j t v ht hv' => hv (j + 1) t v (by simpa using ht) (by simpa using hv')) h2 (fun n hn => hw n (by simp [DataW.weightsEach, hn]))
  | [], [], _ :: _, _, _, _, h, _ => h.elim
  | [], _ :: _, _, _, _, _, h, _ => by cases ‹List (DataW H)› <;> exact h.elim
  | _ :: _, [], _, _, _, _, h, _ => by cases ‹List (DataW H)› <;> exact h.elim
  | _ :: _, _ :: _, [], _, _, _, h, _ => h.elim

/-- A law: called with whatever values that can be read, it tells true, and turns nothing that was there. -/
theorem law_lift {H : Type} {enc : TypeId × Value → H} {C : Checked} {os : Os} {f : FuncId} {fn : Func} {s : ChangeSpec} {tb : TypeId} (own : ownKnob C.prog.godebug = none) (started : os.Started) (noInit : C.prog.inits.idxOf? f = none) (hfn : C.prog.funcs[f]? = some fn)
    (witness : ∃ (w : World) (tape : Tape) (i : Input), w.os = os ∧ (w.forCall tape i).Shaped C.prog ∧ i.vars = [] ∧ Input.okWide C.prog (w.forCall tape i) .any w.heap.size f i ∧
      s.pre6 enc C.prog fn [] false (w.forCall tape i).memory i.args ∧ ({} : Assume).holds C.prog (lone (Frame.enter C.prog f i.args .normal) [] (w.forCall tape i)))
    (hl : laidOutB C.prog = true) (hv : s.vars = []) (hts : (fn.params.toList.all fun t => C.prog.readableRec t && decide (t < C.prog.types.size)) = true) (hti : (fn.params.toList.all fun t => match C.prog.underlying t with | some (.interface _) => false | _ => true) = true)
    (hr : fn.resultTypes = #[tb]) (hbt : C.prog.underlying tb = some .bool) (hfn2 : ∀ (ds : List (DataW H)), ds.length = fn.params.toList.length → s.fn H ds = { results := [.lit (.bool true)], args := ds })
    (law : ∀ (β : Nat → Option Obj) (vs : List Value), RdVs C.prog β fn.params.toList vs → PureB C.prog f vs.toArray β (.bool true)) :
    ReturnsInHanded {} C os f .any (s.pre6 enc C.prog fn [] false) (s.post enc C.prog fn false true false false) := by
  refine returnsInHanded_of_change_sized own started noInit hfn witness ?_
  intro W base args ds gs before hval hW _ hz _
  have hW' := hW
  obtain ⟨p, q, hA, hV, rfl, hfz, hnd⟩ := hW
  have hgs : gs = [] := by
    rw [hv] at hV
    cases gs with
    | nil => rfl
    | cons _ _ => exact hV.elim
  subst hgs
  have hlen : ds.length = fn.params.toList.length := by
    have : ∀ {ts : List TypeId} {vs : List Value} {ds : List (DataW H)} {ps : List MemPlace}, DataW.TrodAll enc C.prog W 0 (fun _ => true) true ts vs ds ps → ds.length = ts.length := by
      intro ts
      induction ts with
      | nil => intro vs ds ps h; cases vs <;> cases ds <;> first | rfl | exact h.elim
      | cons t ts ih =>
        intro vs ds ps h
        cases vs <;> cases ds <;> first | exact h.elim | (obtain ⟨_, _, _, h2, _⟩ := h; simp [ih h2])
    exact this hA
  have hz' : ∀ n ∈ DataW.weightsEach C.prog fn.params.toList ds, n ≤ reachBytes := by
    intro n hn
    have key : ∀ {ts ts' : List TypeId} {ds : List (DataW H)}, ds.length = ts.length → ∀ n ∈ DataW.weightsEach C.prog ts ds, n ∈ DataW.weightsEach C.prog (ts ++ ts') (ds ++ []) := by
      intro ts
      induction ts with
      | nil => intro ts' ds h n hn; cases ds <;> simp [DataW.weightsEach] at hn
      | cons t ts ih =>
        intro ts' ds h n hn
        cases ds with
        | nil => simp at h
        | cons d ds =>
          simp only [DataW.weightsEach, List.mem_append] at hn
          simp only [List.cons_append, DataW.weightsEach, List.mem_append]
          exact hn.imp id (fun hn => ih (by simpa using h) n hn)
    have := List.all_eq_true.1 hz n (key hlen n hn)
    simpa using this
  have hrd := rdVs_of (held := true) hti (fun j t v ht hv' => hval j t v (by simpa using ht) (by simpa using hv')) hA hz'
  have hp := law (fun b => W.heap[b]?) args.toList hrd
  refine ((hp.run W (fun b o hb => ⟨hb, by simp⟩))).mono fun e W' ⟨he, hb⟩ => ?_
  subst he
  exact ⟨_, rfl, law_frame hl hW' hv hts hr hbt (by rw [List.append_nil]; exact hfn2 ds hlen) hb⟩

/-! ### Opening: the cells of a value, by the types of its leaves -/
def lvsF (P : Program) (rec : TypeId → Option (List TypeId)) : Nat → List Field → Option (List TypeId)
  | _, [] => some []
  | off, f :: fs => match rec f.type, lvsF P rec (off + P.cellsOf f.type) fs with
    | some l, some r => if f.offset = off ∧ l.length = P.cellsOf f.type then some (l ++ r) else none
    | _, _ => none
def lvs (P : Program) : Nat → TypeId → Option (List TypeId)
  | 0, _ => none
  | n + 1, t => match P.underlying t with
    | some (.struct fs) => match lvsF P (lvs P n) 0 fs.toList with
      | some ts => if ts.length = P.cellsOf t then some ts else none
      | none => none
    | some (.array m e) => match lvs P n e with
      | some l => if l.length = P.cellsOf e ∧ m * P.cellsOf e = P.cellsOf t then some (List.replicate m l).flatten else none
      | none => none
    | some _ => some [t]
    | none => none

def RdL (P : Program) (β : Nat → Option Obj) : List TypeId → List Value → Prop
  | [], [] => True
  | t :: ts, c :: cs => (∃ n, Rd P β n t [c]) ∧ RdL P β ts cs
  | _, _ => False
theorem RdL.append {P : Program} {β : Nat → Option Obj} : ∀ {ts ts' : List TypeId} {cs cs' : List Value}, RdL P β ts cs → RdL P β ts' cs' → RdL P β (ts ++ ts') (cs ++ cs')
  | [], _, [], _, _, h => h
  | _ :: _, _, _ :: _, _, h, h' => ⟨h.1, RdL.append h.2 h'⟩
  | [], _, _ :: _, _, h, _ => h.elim
  | _ :: _, _, [], _, h, _ => h.elim
theorem RdL.length {P : Program} {β : Nat → Option Obj} : ∀ {ts : List TypeId} {cs : List Value}, RdL P β ts cs → cs.length = ts.length
  | [], [], _ => rfl
  | _ :: _, _ :: _, h => by simp [RdL.length h.2]
  | [], _ :: _, h => h.elim
  | _ :: _, [], h => h.elim

theorem rd_leaves {P : Program} {β : Nat → Option Obj} : ∀ (k : Nat) (t : TypeId) (ts : List TypeId) (n : Nat) (cs : List Value), lvs P k t = some ts → (aggT P t = false → ∃ c, cs = [c]) → Rd P β n t cs → RdL P β ts cs
  | 0, _, _, _, _, h, _, _ => by simp [lvs] at h
  | k + 1, t, ts, 0, cs, _, _, hr => by simp [Rd] at hr
  | k + 1, t, ts, n + 1, cs, h, hc, hr => by
    have hr0 := hr
    unfold lvs at h
    unfold Rd at hr
    split at h
    · rename_i fs hu
      rw [hu] at hr
      simp only at hr
      obtain ⟨hl, hf⟩ := hr
      split at h
      · rename_i ts' hts
        split at h
        · rename_i hlen
          simp only [Option.some.injEq] at h
          subst h
          have key : ∀ (l : List Field) (off i : Nat) (us : List TypeId), lvsF P (lvs P k) off l = some us → (∀ j f, l[j]? = some f → fs[i + j]? = some f) → off + us.length = cs.length → RdL P β us (cs.drop off) := by
            intro l
            induction l with
            | nil =>
              intro off i us h1 _ h3
              simp only [lvsF, Option.some.injEq] at h1
              subst h1
              simp only [List.length_nil, Nat.add_zero] at h3
              rw [h3, List.drop_length]; trivial
            | cons f l ih =>
              intro off i us h1 h2 h3
              simp only [lvsF] at h1
              split at h1
              · rename_i a b h4 h5
                split at h1
                · rename_i h6
                  simp only [Option.some.injEq] at h1
                  subst h1
                  have h7 := hf i f (by have := h2 0 f rfl; simpa using this)
                  have h8 := rd_leaves k f.type a n _ h4 (fun ha => by
                    have : a.length = 1 := by
                      unfold aggT at ha
                      cases k with
                      | zero => simp [lvs] at h4
                      | succ k =>
                        unfold lvs at h4
                        split at h4
                        · rename_i hu'; rw [hu'] at ha; cases ha
                        · rename_i hu'; rw [hu'] at ha; cases ha
                        · simp only [Option.some.injEq] at h4; subst h4; rfl
                        · cases h4
                    have h9 : ((cs.drop f.offset).take (P.cellsOf f.type)).length = 1 := by
                      rw [List.length_take, List.length_drop, ← h6.2, h6.1]
                      simp only [List.length_append] at h3
                      omega
                    exact List.length_eq_one_iff.1 h9) h7
                  have h9 := ih (off + P.cellsOf f.type) (i + 1) b h5 (fun j g hj => by have := h2 (j + 1) g (by simpa using hj); rwa [show i + (j + 1) = i + 1 + j by omega] at this) (by simp only [List.length_append] at h3; omega)
                  have h10 := RdL.append h8 h9
                  have e : (cs.drop f.offset).take (P.cellsOf f.type) ++ cs.drop (off + P.cellsOf f.type) = cs.drop off := by
                    rw [h6.1, ← List.drop_drop, List.take_append_drop]
                  rw [e] at h10
                  exact h10
                · cases h1
              · cases h1
          have := key fs.toList 0 0 ts' hts (fun j f hj => by simpa using hj) (by omega)
          simpa using this
        · cases h
      · cases h
    · rename_i m e hu
      rw [hu] at hr
      simp only at hr
      obtain ⟨hl, hf⟩ := hr
      split at h
      · rename_i l hle
        split at h
        · rename_i h6
          simp only [Option.some.injEq] at h
          subst h
          have key : ∀ q, q ≤ m → RdL P β (List.replicate q l).flatten (cs.drop ((m - q) * P.cellsOf e)) := by
            intro q
            induction q with
            | zero => intro _; rw [Nat.sub_zero, h6.2, ← hl, List.drop_length]; trivial
            | succ q ih =>
              intro hq
              rw [List.replicate_succ, List.flatten_cons]
              have h7 := hf (m - (q + 1)) (by omega)
              have hmul : (m - (q + 1)) * P.cellsOf e + P.cellsOf e ≤ cs.length := by
                rw [hl, ← h6.2, ← Nat.succ_mul]
                exact Nat.mul_le_mul_right _ (by omega)
              have h8 := rd_leaves k e l n _ hle (fun ha => by
                have : l.length = 1 := by
                  unfold aggT at ha
                  cases k with
                  | zero => simp [lvs] at hle
                  | succ k =>
                    unfold lvs at hle
                    split at hle
                    · rename_i hu'; rw [hu'] at ha; cases ha
                    · rename_i hu'; rw [hu'] at ha; cases ha
                    · simp only [Option.some.injEq] at hle; subst hle; rfl
                    · cases hle
                have h9 : ((cs.drop ((m - (q + 1)) * P.cellsOf e)).take (P.cellsOf e)).length = 1 := by
                  rw [List.length_take, List.length_drop]
                  omega
                exact List.length_eq_one_iff.1 h9) h7
              have h9 := ih (by omega)
              have h10 := RdL.append h8 h9
              have e1 : (m - q) * P.cellsOf e = (m - (q + 1)) * P.cellsOf e + P.cellsOf e := by
                rw [← Nat.succ_mul]; congr 1; omega
              rw [e1, ← List.drop_drop, List.take_append_drop] at h10
              exact h10
          have := key m (Nat.le_refl _)
          simpa using this
        · cases h
      · cases h
    · rename_i d hn1 hn2 hu
      simp only [Option.some.injEq] at h
      subst h
      obtain ⟨c, rfl⟩ := hc (by unfold aggT; rw [hu]; cases d <;> first | rfl | exact (hn1 _ rfl).elim | exact (hn2 _ _ rfl).elim)
      exact ⟨⟨n + 1, hr0⟩, trivial⟩
    · cases h

theorem rdV_leaves {P : Program} {β : Nat → Option Obj} {t : TypeId} {v : Value} {k : Nat} {ts : List TypeId} (h : RdV P β t v) (hl : lvs P k t = some ts) : ∃ cs, RdL P β ts cs ∧ ((aggT P t = true ∧ v = .agg cs.toArray) ∨ (aggT P t = false ∧ cs = [v])) := by
  obtain ⟨n, cs, h1, h2⟩ := h
  refine ⟨cs, rd_leaves k t ts n cs hl (fun ha => ?_) h1, h2⟩
  rcases h2 with ⟨h3, _⟩ | ⟨_, rfl⟩
  · rw [ha] at h3; cases h3
  · exact ⟨v, rfl⟩

theorem wf_i64 {x : Int} (h : (Lit.int .i64 x).wf = true) : -9223372036854775808 ≤ x ∧ x ≤ 9223372036854775807 := by
  simp only [Lit.wf, Bool.and_eq_true, decide_eq_true_eq] at h
  have e1 : IntKind.i64.min = -9223372036854775808 := by decide
  have e2 : IntKind.i64.max = 9223372036854775807 := by decide
  omega
theorem rd_i64 {P : Program} {β : Nat → Option Obj} {t : TypeId} {c : Value} (hu : P.underlying t = some (.int .i64)) (h : ∃ n, Rd P β n t [c]) : ∃ x : Int, c = .int .i64 x ∧ (-9223372036854775808 ≤ x ∧ x ≤ 9223372036854775807) := by
  obtain ⟨n, h⟩ := h
  cases n with
  | zero => simp [Rd] at h
  | succ n =>
    unfold Rd at h
    rw [hu] at h
    obtain ⟨x, h1, h2⟩ := h
    simp only [List.cons.injEq, and_true] at h1
    exact ⟨x, h1, wf_i64 h2⟩
theorem rd_int {P : Program} {β : Nat → Option Obj} {t : TypeId} {c : Value} {k : IntKind} (hu : P.underlying t = some (.int k)) (h : ∃ n, Rd P β n t [c]) : ∃ x : Int, c = .int k x ∧ (Lit.int k x).wf = true := by
  obtain ⟨n, h⟩ := h
  cases n with
  | zero => simp [Rd] at h
  | succ n =>
    unfold Rd at h
    rw [hu] at h
    obtain ⟨x, h1, h2⟩ := h
    simp only [List.cons.injEq, and_true] at h1
    exact ⟨x, h1, h2⟩
theorem rd_bool {P : Program} {β : Nat → Option Obj} {t : TypeId} {c : Value} (hu : P.underlying t = some .bool) (h : ∃ n, Rd P β n t [c]) : ∃ b, c = .bool b := by
  obtain ⟨n, h⟩ := h
  cases n with
  | zero => simp [Rd] at h
  | succ n =>
    unfold Rd at h
    rw [hu] at h
    obtain ⟨x, h1⟩ := h
    simp only [List.cons.injEq, and_true] at h1
    exact ⟨x, h1⟩
theorem rd_string {P : Program} {β : Nat → Option Obj} {t : TypeId} {c : Value} (hu : P.underlying t = some .string) (h : ∃ n, Rd P β n t [c]) : ∃ s : ByteArray, c = .string s ∧ s.size ≤ reachBytes := by
  obtain ⟨n, h⟩ := h
  cases n with
  | zero => simp [Rd] at h
  | succ n =>
    unfold Rd at h
    rw [hu] at h
    obtain ⟨x, h1, h2⟩ := h
    simp only [List.cons.injEq, and_true] at h1
    exact ⟨x, h1, h2⟩

/-- A slice that was handed in: m elements of n cells each, xs in all; bytes each element. -/
def SlR (β : Nat → Option Obj) (n m bytes : Nat) (xs : List Value) (p : Option Addr) (c : Nat) : Prop :=
  m ≤ c ∧ c * bytes ≤ 140737488351232 ∧ c ≤ 9223372036854775807 ∧ (p = none → c = 0) ∧ xs.length = m * n ∧ (0 < m * n → ∃ b off, p = some ⟨b, off, none⟩ ∧ ∀ (j : Nat) (u : Value), xs[j]? = some u → Rc β b (off + j) u)
theorem rd_slice {P : Program} {β : Nat → Option Obj} {t e : TypeId} {c : Value} {k : Nat} {ts : List TypeId} (hu : P.underlying t = some (.slice e)) (hl : lvs P k e = some ts) (hn : ts.length = P.cellsOf e) (h : ∃ n, Rd P β n t [c]) :
    ∃ p m cap xs, c = .slice p m cap ∧ SlR β ts.length m (P.bytesOf e) xs p cap ∧ ∀ i, i < m → RdL P β ts ((xs.drop (i * ts.length)).take ts.length) := by
  obtain ⟨n, h⟩ := h
  cases n with
  | zero => simp [Rd] at h
  | succ n =>
    unfold Rd at h
    rw [hu] at h
    obtain ⟨p, m, cap, xs, h1, h2, h3, h4, h5, h6, h7, h8⟩ := h
    simp only [List.cons.injEq, and_true] at h1
    refine ⟨p, m, cap, xs, h1, ⟨h2, h3, h4, h5, by rw [hn]; exact h6, by rw [hn]; exact h7⟩, fun i hi => ?_⟩
    rw [hn]
    refine rd_leaves k e ts n _ hl (fun ha => ?_) (h8 i hi)
    have : ts.length = 1 := by
      unfold aggT at ha
      cases k with
      | zero => simp [lvs] at hl
      | succ k =>
        unfold lvs at hl
        split at hl
        · rename_i hu'; rw [hu'] at ha; cases ha
        · rename_i hu'; rw [hu'] at ha; cases ha
        · simp only [Option.some.injEq] at hl; subst hl; rfl
        · cases hl
    have h9 : ((xs.drop (i * P.cellsOf e)).take (P.cellsOf e)).length = 1 := by
      have : (i + 1) * P.cellsOf e ≤ m * P.cellsOf e := Nat.mul_le_mul_right _ (by omega)
      rw [Nat.add_mul] at this
      rw [List.length_take, List.length_drop]
      omega
    exact List.length_eq_one_iff.1 h9

theorem RdL.one {P : Program} {β : Nat → Option Obj} {t : TypeId} {cs : List Value} (h : RdL P β [t] cs) : ∃ c, cs = [c] ∧ ∃ n, Rd P β n t [c] := by
  match cs, h with
  | [c], ⟨h, _⟩ => exact ⟨c, rfl, h⟩
theorem RdL.cons {P : Program} {β : Nat → Option Obj} {t : TypeId} {ts : List TypeId} {cs : List Value} (h : RdL P β (t :: ts) cs) : ∃ c r, cs = c :: r ∧ (∃ n, Rd P β n t [c]) ∧ RdL P β ts r := by
  match cs, h with
  | c :: r, ⟨h, h'⟩ => exact ⟨c, r, rfl, h, h'⟩
theorem RdL.nil {P : Program} {β : Nat → Option Obj} {cs : List Value} (h : RdL P β [] cs) : cs = [] := by
  match cs, h with
  | [], _ => rfl
theorem RdVs.cons {P : Program} {β : Nat → Option Obj} {t : TypeId} {ts : List TypeId} {vs : List Value} (h : RdVs P β (t :: ts) vs) : ∃ v r, vs = v :: r ∧ RdV P β t v ∧ RdVs P β ts r := by
  match vs, h with
  | v :: r, ⟨h, h'⟩ => exact ⟨v, r, rfl, h, h'⟩
theorem RdVs.nil {P : Program} {β : Nat → Option Obj} {vs : List Value} (h : RdVs P β [] vs) : vs = [] := by
  match vs, h with
  | [], _ => rfl
theorem rdV_one {P : Program} {β : Nat → Option Obj} {t : TypeId} {v : Value} (h : RdV P β t v) (ha : aggT P t = false) : ∃ n, Rd P β n t [v] := by
  obtain ⟨n, cs, h1, h2⟩ := h
  rcases h2 with ⟨h3, _⟩ | ⟨_, rfl⟩
  · rw [ha] at h3; cases h3
  · exact ⟨n, h1⟩
theorem rdV_agg {P : Program} {β : Nat → Option Obj} {t : TypeId} {v : Value} {k : Nat} {ts : List TypeId} (h : RdV P β t v) (ha : aggT P t = true) (hl : lvs P k t = some ts) : ∃ cs, v = .agg cs.toArray ∧ RdL P β ts cs := by
  obtain ⟨cs, h1, h2⟩ := rdV_leaves h hl
  rcases h2 with ⟨_, h3⟩ | ⟨h3, _⟩
  · exact ⟨cs, h3, h1⟩
  · rw [ha] at h3; cases h3
/-- Elements that are whole numbers, a cell each. -/
theorem ints_of {P : Program} {β : Nat → Option Obj} {t : TypeId} {k : IntKind} (hu : P.underlying t = some (.int k)) : ∀ {m : Nat} {xs : List Value}, xs.length = m → (∀ i, i < m → RdL P β [t] ((xs.drop i).take 1)) → ∃ ns : List Int, xs = ns.map (.int k) ∧ ∀ x ∈ ns, (Lit.int k x).wf = true
  | 0, xs, hl, _ => ⟨[], by simpa using hl, fun x hx => by cases hx⟩
  | m + 1, xs, hl, h => by
    match xs, hl with
    | x :: r, hl =>
      obtain ⟨c, h1, h2⟩ := (h 0 (by omega)).one
      simp only [List.drop_zero, List.take_succ_cons, List.take_zero, List.cons.injEq, and_true] at h1
      subst h1
      obtain ⟨a, rfl, ha⟩ := rd_int hu h2
      obtain ⟨ns, rfl, hns⟩ := ints_of hu (m := m) (xs := r) (by simpa using hl) (fun i hi => by have := h (i + 1) (by omega); simpa using this)
      exact ⟨a :: ns, rfl, fun y hy => by rcases List.mem_cons.1 hy with rfl | hy; exact ha; exact hns y hy⟩
end Go.K
end
section
namespace Go.K
open Go Go.RowKit

/-- The m elements, n cells each, of the slice that begins at p. -/
def SL (β : Nat → Option Obj) (σ : Heap) (n m : Nat) (xs : List Value) (p : Option Addr) : Prop :=
  xs.length = m * n ∧ (0 < m → ∃ b off, p = some ⟨b, off, none⟩ ∧ ∀ (j : Nat) (u : Value), xs[j]? = some u → Cel β σ b (off + j) u)

theorem SL.mono {β : Nat → Option Obj} {σ σ' : Heap} {n m : Nat} {xs : List Value} {p : Option Addr} (hs : ∀ q ∈ σ, q ∈ σ') (h : SL β σ n m xs p) : SL β σ' n m xs p :=
  ⟨h.1, fun hm => by obtain ⟨b, off, h1, h2⟩ := h.2 hm; exact ⟨b, off, h1, fun j u hj => (h2 j u hj).mono hs⟩⟩
theorem SL.up {β β' : Nat → Option Obj} {σ : Heap} {n m : Nat} {xs : List Value} {p : Option Addr} (hb : ∀ b o, β b = some o → β' b = some o) (h : SL β σ n m xs p) : SL β' σ n m xs p :=
  ⟨h.1, fun hm => by
    obtain ⟨b, off, h1, h2⟩ := h.2 hm
    refine ⟨b, off, h1, fun j u hj => ?_⟩
    rcases h2 j u hj with h3 | ⟨c, e, fz, h3, h4⟩
    · exact .inl h3
    · exact .inr ⟨c, e, fz, hb _ _ h3, h4⟩⟩
theorem SL.ofR {β : Nat → Option Obj} {σ : Heap} {n m by' : Nat} {xs : List Value} {p : Option Addr} {c : Nat} (hn : 0 < n) (h : SlR β n m by' xs p c) : SL β σ n m xs p := by
  obtain ⟨_, _, _, _, h5, h6⟩ := h
  refine ⟨h5, fun hm => ?_⟩
  obtain ⟨b, off, h7, h8⟩ := h6 (Nat.mul_pos hm hn)
  exact ⟨b, off, h7, fun j u hj => .inr (h8 j u hj)⟩
theorem SL.ofVec {β : Nat → Option Obj} {σ φ : Heap} {e n m : Nat} {xs : List Value} {p : Option Addr} {c : Nat} (h : Vec e n m xs (.slice p m c) φ) (hs : ∀ q ∈ φ, q ∈ σ) : SL β σ n m xs p := by
  obtain ⟨h1, h2⟩ := h
  refine ⟨h1, fun hm => ?_⟩
  rcases h2 with ⟨_, h3, _⟩ | ⟨g, cap, sp, h3, h4, _⟩
  · omega
  · simp only [Value.slice.injEq] at h3
    obtain ⟨rfl, _, _⟩ := h3
    refine ⟨g, 0, rfl, fun j u hj => .inl ⟨xs ++ sp, e, hs _ (by rw [h4]; exact List.mem_cons_self), ?_⟩⟩
    have := (List.getElem?_eq_some_iff.1 hj).1
    rw [Nat.zero_add, List.getElem?_append_left this]; exact hj
theorem SL.ofSlc {β : Nat → Option Obj} {σ : Heap} {n m : Nat} {xs : List Value} {p : Option Addr} {c : Nat} (h : Slc β σ n m xs (.slice p m c)) : SL β σ n m xs p := by
  obtain ⟨h1, q, d, h2, h3⟩ := h
  simp only [Value.slice.injEq] at h2
  obtain ⟨rfl, _, rfl⟩ := h2
  refine ⟨h1, fun hm => ?_⟩
  rcases h3 with ⟨_, h4, _⟩ | ⟨b, off, h4, h5⟩
  · omega
  · exact ⟨b, off, h4, h5⟩

section
variable {C : Cx} {L : Look} {σ : Heap} {g : Bool} {o : Oper}
theorem qt_load1_cel {t : TypeId} {x : Operand} {gx : Bool} {b off : Nat} {d : TypeDesc} {v : Value} (ho : o.op = .load t x) (hx : opnd L x = some (gx, .pointer (some ⟨b, off, none⟩))) (hi : g = true → gx = true)
    (hu : C.T.u t = some d) (ha : aggD d = false) (hc : g = true → Cel C.E.β σ b off v) : Qt C L σ g o v :=
  qt_val fun ac w hL hO hg => by simp [execOp, ho, opnd_ev hL hx (hi hg), run_load1 hu ha ((hc hg).ok hO)]
theorem qt_loadN_cel {t : TypeId} {x : Operand} {gx : Bool} {b off : Nat} {vs : List Value} {d : TypeDesc} {z : Value} {n m : Nat} (ho : o.op = .load t x) (hx : opnd L x = some (gx, .pointer (some ⟨b, off, none⟩))) (hi : g = true → gx = true)
    (hu : C.T.u t = some d) (ha : aggD d = true) (hz : C.T.i t = some (z, n, m)) (hl : vs.length = n) (hc : g = true → ∀ j v, vs[j]? = some v → Cel C.E.β σ b (off + j) v) : Qt C L σ g o (.agg vs.toArray) :=
  qt_val fun ac w hL hO hg => by simp [execOp, ho, opnd_ev hL hx (hi hg), run_loadN hu ha hz hl (fun j v hj => (hc hg j v hj).ok hO)]
end

/-! ### Lists of pairs of whole numbers -/
def fl2 (l : List (Int × Int)) : List Value := l.flatMap fun c => [.int .i64 c.1, .int .i64 c.2]
theorem fl2_len : ∀ l : List (Int × Int), (fl2 l).length = l.length * 2
  | [] => rfl
  | c :: l => by
    have := fl2_len l
    simp only [fl2, List.flatMap_cons, List.length_append, List.length_cons, List.length_nil] at this ⊢
    omega
theorem fl2_append (l r : List (Int × Int)) : fl2 (l ++ r) = fl2 l ++ fl2 r := by simp [fl2]
theorem fl2_get : ∀ {l : List (Int × Int)} {i : Nat} {c : Int × Int}, l[i]? = some c → (fl2 l)[i * 2]? = some (.int .i64 c.1) ∧ (fl2 l)[i * 2 + 1]? = some (.int .i64 c.2)
  | [], i, c, h => by simp at h
  | d :: l, 0, c, h => by
    simp only [List.getElem?_cons_zero, Option.some.injEq] at h
    subst h
    exact ⟨rfl, rfl⟩
  | d :: l, i + 1, c, h => by
    have := fl2_get (l := l) (i := i) (c := c) (by simpa using h)
    have e1 : (i + 1) * 2 = i * 2 + 2 := by omega
    have e2 : (i + 1) * 2 + 1 = i * 2 + 1 + 2 := by omega
    rw [e1, show i * 2 + 2 + 1 = i * 2 + 1 + 2 by omega]
    exact this
theorem fl2_one {l : List (Int × Int)} : (fl2 l).all Value.oneCell' = true := by
  induction l with
  | nil => rfl
  | cons c l ih => simp only [fl2, List.flatMap_cons, List.all_append, Bool.and_eq_true]; exact ⟨rfl, ih⟩
theorem cel2 {β : Nat → Option Obj} {σ : Heap} {b off : Nat} {l : List (Int × Int)} {i : Nat} {c : Int × Int} (h : ∀ (j : Nat) (u : Value), (fl2 l)[j]? = some u → Cel β σ b (off + j) u) (hi : l[i]? = some c) :
    ∀ j v, [Value.int .i64 c.1, .int .i64 c.2][j]? = some v → Cel β σ b (off + i * 2 + j) v := by
  obtain ⟨h1, h2⟩ := fl2_get hi
  intro j v hj
  match j with
  | 0 => simp only [List.getElem?_cons_zero, Option.some.injEq] at hj; subst hj; exact h _ _ h1
  | 1 => simp only [List.getElem?_cons_succ, List.getElem?_cons_zero, Option.some.injEq] at hj; subst hj; have := h _ _ h2; rwa [show off + i * 2 + 1 = off + (i * 2 + 1) by omega]
  | j + 2 => simp at hj
end Go.K
end
section
namespace Go.K
open Go Go.RowKit

section
variable {C : Cx} {L : Look} {ops : List Oper} {Q : KQ} {o : Oper} {rest : List Oper} {fr : Fr} {σ : Heap} {d : Nat} {g : Bool}
/-- 'copy' of a slice that can be read into a tracked row of one-cell elements. -/
theorem KO.copyL {x y : Operand} {t t' e : TypeId} {z : Value} {by' b off dLen dCap i m c : Nat} {cs xs : List Value} {te : TypeId} {p : Option Addr} {σ' : Heap} (hg : guardOf ops (look fr) o = some true) (hd : o.dst = some d) (hn : Nat.blt d C.N = true) (ho : o.op = .call ⟨.builtin .copy, #[x, y], #[t, t']⟩)
    (hx : opnd (look fr) x = some (true, .slice (some ⟨b, off, none⟩) dLen dCap)) (hy : opnd (look fr) y = some (true, .slice p m c)) (hu : C.T.u t = some (.slice e)) (hz : C.T.i e = some (z, 1, by')) (hv : SL C.E.β σ 1 m xs p) (hpc : p = none → c = 0 ∧ m = 0) (hi : getI i σ = some (b, cl cs te)) (h1 : xs.all Value.oneCell' = true)
    (hfit : off + min m dLen ≤ cs.length) (hs : setI i (b, cl (cs.take off ++ xs.take (min m dLen) ++ cs.drop (off + min m dLen)) te) σ = some σ') (h : KO C ops Q rest ((d, true, .int .i64 ((min m dLen : Nat) : Int)) :: fr) σ') : KO C ops Q (o :: rest) fr σ := by
  cases p with
  | none =>
    obtain ⟨rfl, rfl⟩ := hpc rfl
    exact KO.copy hg hd hn ho hx hy hu hz ⟨hv.1, none, 0, rfl, .inl ⟨rfl, rfl, rfl⟩⟩ hi h1 hfit hs h
  | some a =>
    obtain ⟨hxl, hcase⟩ := hv
    rw [Nat.mul_one] at hxl
    obtain ⟨ti, hi1, _, hi3, _⟩ := TT.i_ok hz
    refine KO.eff (Post := fun u s => u = .int .i64 ((min m dLen : Nat) : Int) ∧ s = σ') hg hd hn (fun ac w hL hO => .inl ?_) (fun _ _ ⟨e1, e2⟩ => by subst e1 e2; exact h)
    have hb := hO.has.has _ (setI_spec hi hs).2.1
    have hlen : (xs.take (min m dLen)).length = min m dLen := by rw [List.length_take]; omega
    have hr := run_copy_row (P := C.P) w t t' o.type e b off dLen dCap a m c cs.toArray te (xs.take (min m dLen)) (TT.u_ok hu) (by rw [hi1]; simp [hi3]) hb (by rw [hlen])
      (fun j u hj => by
        have hlt := (List.getElem?_eq_some_iff.1 hj).1
        rw [hlen] at hlt
        obtain ⟨sb, so, h2, h3⟩ := hcase (by omega)
        simp only [Option.some.injEq] at h2
        subst h2
        rw [Addr.add_lit]
        rw [List.getElem?_take_of_lt hlt] at hj
        exact (h3 j u hj).ok hO) (by rw [hlen]; simpa using hfit) (fun u hu => List.all_eq_true.1 h1 u (List.mem_of_mem_take hu))
    rw [hlen] at hr
    refine ⟨_, w.setRow b ((cs.toArray.toList.take off ++ xs.take (min m dLen) ++ cs.toArray.toList.drop (off + min m dLen)).toArray), ?_, σ', ⟨rfl, rfl⟩, Stp.set hO.has hi hs rfl rfl rfl (by simp [World.setRow]) (fun k hk => ?_) ?_⟩
    · simp [execOp, ho, resolve, invoke, builtin, opnd_ev hL hx rfl, opnd_ev hL hy rfl]
      rw [hr]; simp [goInt]
    · simp only [World.setRow, Array.getElem?_modify]; rw [if_neg (by omega)]
    · simp [World.setRow, Array.getElem?_modify, hb, cl]

/-- A call that is handed all that is tracked. -/
theorem eo_callA {x : Operand} {f : FuncId} {first cap : List Value} {args : Array Operand} {ts : Array TypeId} {gs : List Bool} {vs : List Value} {R : Value → Heap → Prop}
    (ho : o.op = .call ⟨.value x, args, ts⟩) (hx : opnd L x = some (true, .func (.func f) first.toArray cap.toArray)) (ha : opnds L args.toList = some (gs, vs)) (hi : gs.all id = true) (hT : Tr C.P f (first ++ vs ++ cap) C.E.β σ R) : EO C L σ o R := fun a w hL hO => .inr (.inr (by
  refine ⟨f, _, run_call hT.1 ho (opnd_ev hL hx rfl) (opnds_ok hL ha hi), ?_⟩
  have e : (first.toArray ++ vs.toArray) ++ cap.toArray = (first ++ vs ++ cap).toArray := by simp
  rw [e]
  exact (hT.2 w (fun b o hb => hO.ro hb) hO.has).mono fun e w' ⟨v, σ', h1, h2, h3⟩ => ⟨v, h1, σ', h2, h3⟩))
theorem KO.callA {x : Operand} {f : FuncId} {first cap : List Value} {args : Array Operand} {ts : Array TypeId} {gs : List Bool} {vs : List Value} {R : Value → Heap → Prop}
    (hg : guardOf ops (look fr) o = some true) (hd : o.dst = some d) (hn : Nat.blt d C.N = true) (ho : o.op = .call ⟨.value x, args, ts⟩) (hx : opnd (look fr) x = some (true, .func (.func f) first.toArray cap.toArray)) (ha : opnds (look fr) args.toList = some (gs, vs)) (hi : gs.all id = true)
    (hT : Tr C.P f (first ++ vs ++ cap) C.E.β σ R) (h : ∀ v σ', R v σ' → KO C ops Q rest ((d, true, v) :: fr) σ') : KO C ops Q (o :: rest) fr σ := KO.ofEO hg hd hn (eo_callA ho hx ha hi hT) h
theorem KO.callA0 {x : Operand} {f : FuncId} {first cap : List Value} {args : Array Operand} {ts : Array TypeId} {gs : List Bool} {vs : List Value} {R : Value → Heap → Prop}
    (hg : guardOf ops (look fr) o = some true) (hd : o.dst = none) (ho : o.op = .call ⟨.value x, args, ts⟩) (hx : opnd (look fr) x = some (true, .func (.func f) first.toArray cap.toArray)) (ha : opnds (look fr) args.toList = some (gs, vs)) (hi : gs.all id = true)
    (hT : Tr C.P f (first ++ vs ++ cap) C.E.β σ R) (h : ∀ v σ', R v σ' → KO C ops Q rest fr σ') : KO C ops Q (o :: rest) fr σ := KO.ofEO0 hg hd (eo_callA ho hx ha hi hT) h

/-- s[l:h:m], of any of its bounds. -/
def adv (n : Nat) (p : Option Addr) (m l : Nat) : Option Addr := if m = l then p else p.map (·.add (l * n))
theorem SL.adv {β : Nat → Option Obj} {n m l h c : Nat} {xs : List Value} {p : Option Addr} (hv : SL β σ n m xs p) (hlh : l ≤ h) (hh : h ≤ m) (hc : h ≤ c) : SL β σ n (h - l) ((xs.drop (l * n)).take ((h - l) * n)) (adv n p c l) := by
  refine ⟨?_, fun h0 => ?_⟩
  · rw [List.length_take, List.length_drop, hv.1]
    have : h * n ≤ m * n := Nat.mul_le_mul_right _ hh
    have e : (h - l) * n = h * n - l * n := Nat.sub_mul _ _ _
    have : l * n ≤ h * n := Nat.mul_le_mul_right _ hlh
    omega
  · obtain ⟨b, off, rfl, h2⟩ := hv.2 (by omega)
    refine ⟨b, off + l * n, ?_, fun j u hj => ?_⟩
    · unfold K.adv
      rw [if_neg (by omega)]
      simp [Addr.add_lit]
    · have hj' : j < (h - l) * n := by
        have := (List.getElem?_eq_some_iff.1 hj).1
        rw [List.length_take] at this; omega
      rw [List.getElem?_take_of_lt hj', List.getElem?_drop] at hj
      have := h2 _ u hj
      rwa [Nat.add_assoc]

theorem qt_sliceL {t e : TypeId} {x lo : Operand} {gx gl : Bool} {p : Option Addr} {len cap n by' : Nat} {z : Value} {k : IntKind} {a : Int} (ho : o.op = .slice t x (some lo) none none) (hx : opnd L x = some (gx, .slice p len cap)) (hl : opnd L lo = some (gl, .int k a)) (hi : g = true → (gx && gl) = true) (hu : C.T.u t = some (.slice e)) (hz : C.T.i e = some (z, n, by'))
    (hb : g = true → 0 ≤ a ∧ a ≤ (len : Int)) : Qt C L σ g o (.slice (adv n p cap a.toNat) (len - a.toNat) (cap - a.toNat)) := fun ac w hL hO hg => by
  have h := hi hg
  rw [Bool.and_eq_true] at h
  have := hb hg
  exact qt_slice (lv := some (.int k a)) (hv := none) (mv := none) (h := len) (m := cap) (l := a.toNat) ho hx hu hz (fun _ => h.1) (fun ac hL _ => ⟨by simp [opnd_ev hL hl h.2], rfl, rfl⟩) (fun _ => .inl ⟨rfl, rfl⟩) (fun _ => rfl) (fun _ => .inl ⟨rfl, rfl⟩)
    (fun _ => .inr ⟨k, a, rfl, by omega, by omega, rfl⟩) ac w hL hO hg
theorem qt_sliceH {t e : TypeId} {x hi' : Operand} {gx gl : Bool} {p : Option Addr} {len cap n by' : Nat} {z : Value} {k : IntKind} {a : Int} (ho : o.op = .slice t x none (some hi') none) (hx : opnd L x = some (gx, .slice p len cap)) (hl : opnd L hi' = some (gl, .int k a)) (hi : g = true → (gx && gl) = true) (hu : C.T.u t = some (.slice e)) (hz : C.T.i e = some (z, n, by'))
    (hb : g = true → 0 ≤ a ∧ a ≤ (cap : Int)) : Qt C L σ g o (.slice (adv n p cap 0) (a.toNat - 0) (cap - 0)) := fun ac w hL hO hg => by
  have h := hi hg
  rw [Bool.and_eq_true] at h
  have := hb hg
  exact qt_slice (lv := none) (hv := some (.int k a)) (mv := none) (h := a.toNat) (m := cap) (l := 0) ho hx hu hz (fun _ => h.1) (fun ac hL _ => ⟨rfl, by simp [opnd_ev hL hl h.2], rfl⟩) (fun _ => .inl ⟨rfl, rfl⟩) (fun _ => rfl) (fun _ => .inr ⟨k, a, rfl, by omega, by omega, rfl⟩)
    (fun _ => .inl ⟨rfl, rfl⟩) ac w hL hO hg
theorem qt_sliceLH {t e : TypeId} {x lo hi' : Operand} {gx gl gh : Bool} {p : Option Addr} {len cap n by' : Nat} {z : Value} {k k' : IntKind} {a c : Int} (ho : o.op = .slice t x (some lo) (some hi') none) (hx : opnd L x = some (gx, .slice p len cap)) (hl : opnd L lo = some (gl, .int k a)) (hh : opnd L hi' = some (gh, .int k' c)) (hi : g = true → (gx && (gl && gh)) = true) (hu : C.T.u t = some (.slice e)) (hz : C.T.i e = some (z, n, by'))
    (hb : g = true → 0 ≤ a ∧ a ≤ c ∧ c ≤ (cap : Int)) : Qt C L σ g o (.slice (adv n p cap a.toNat) (c.toNat - a.toNat) (cap - a.toNat)) := fun ac w hL hO hg => by
  have h := hi hg
  rw [Bool.and_eq_true, Bool.and_eq_true] at h
  have := hb hg
  exact qt_slice (lv := some (.int k a)) (hv := some (.int k' c)) (mv := none) (h := c.toNat) (m := cap) (l := a.toNat) ho hx hu hz (fun _ => h.1) (fun ac hL _ => ⟨by simp [opnd_ev hL hl h.2.1], by simp [opnd_ev hL hh h.2.2], rfl⟩) (fun _ => .inl ⟨rfl, rfl⟩) (fun _ => rfl) (fun _ => .inr ⟨k', c, rfl, by omega, by omega, rfl⟩)
    (fun _ => .inr ⟨k, a, rfl, by omega, by omega, rfl⟩) ac w hL hO hg
theorem qt_sliceLHM {t e : TypeId} {x lo hi' mx : Operand} {gx gl gh gm : Bool} {p : Option Addr} {len cap n by' : Nat} {z : Value} {k k' k'' : IntKind} {a c f : Int} (ho : o.op = .slice t x (some lo) (some hi') (some mx)) (hx : opnd L x = some (gx, .slice p len cap)) (hl : opnd L lo = some (gl, .int k a)) (hh : opnd L hi' = some (gh, .int k' c)) (hm : opnd L mx = some (gm, .int k'' f)) (hi : g = true → (gx && (gl && (gh && gm))) = true) (hu : C.T.u t = some (.slice e)) (hz : C.T.i e = some (z, n, by'))
    (hb : g = true → 0 ≤ a ∧ a ≤ c ∧ c ≤ f ∧ f ≤ (cap : Int)) : Qt C L σ g o (.slice (adv n p f.toNat a.toNat) (c.toNat - a.toNat) (f.toNat - a.toNat)) := fun ac w hL hO hg => by
  have h := hi hg
  rw [Bool.and_eq_true, Bool.and_eq_true, Bool.and_eq_true] at h
  have := hb hg
  exact qt_slice (lv := some (.int k a)) (hv := some (.int k' c)) (mv := some (.int k'' f)) (h := c.toNat) (m := f.toNat) (l := a.toNat) ho hx hu hz (fun _ => h.1) (fun ac hL _ => ⟨by simp [opnd_ev hL hl h.2.1], by simp [opnd_ev hL hh h.2.2.1], by simp [opnd_ev hL hm h.2.2.2]⟩) (fun _ => .inr ⟨k'', f, rfl, by omega, by omega, rfl⟩) (fun e => by cases e)
    (fun _ => .inr ⟨k', c, rfl, by omega, by omega, rfl⟩) (fun _ => .inr ⟨k, a, rfl, by omega, by omega, rfl⟩) ac w hL hO hg
theorem qt_sliceHM {t e : TypeId} {x hi' mx : Operand} {gx gh gm : Bool} {p : Option Addr} {len cap n by' : Nat} {z : Value} {k' k'' : IntKind} {c f : Int} (ho : o.op = .slice t x none (some hi') (some mx)) (hx : opnd L x = some (gx, .slice p len cap)) (hh : opnd L hi' = some (gh, .int k' c)) (hm : opnd L mx = some (gm, .int k'' f)) (hi : g = true → (gx && (gh && gm)) = true) (hu : C.T.u t = some (.slice e)) (hz : C.T.i e = some (z, n, by'))
    (hb : g = true → 0 ≤ c ∧ c ≤ f ∧ f ≤ (cap : Int)) : Qt C L σ g o (.slice (adv n p f.toNat 0) (c.toNat - 0) (f.toNat - 0)) := fun ac w hL hO hg => by
  have h := hi hg
  rw [Bool.and_eq_true, Bool.and_eq_true] at h
  have := hb hg
  exact qt_slice (lv := none) (hv := some (.int k' c)) (mv := some (.int k'' f)) (h := c.toNat) (m := f.toNat) (l := 0) ho hx hu hz (fun _ => h.1) (fun ac hL _ => ⟨rfl, by simp [opnd_ev hL hh h.2.1], by simp [opnd_ev hL hm h.2.2]⟩) (fun _ => .inr ⟨k'', f, rfl, by omega, by omega, rfl⟩) (fun e => by cases e)
    (fun _ => .inr ⟨k', c, rfl, by omega, by omega, rfl⟩) (fun _ => .inl ⟨rfl, rfl⟩) ac w hL hO hg
end

/-! ### Rows of bytes -/
def by8 (l : List Nat) : List Value := l.map fun (n : Nat) => Value.int .u8 (n : Int)
def Byt (l : List Nat) : Prop := ∀ n ∈ l, n < 256
theorem by8_len (l : List Nat) : (by8 l).length = l.length := by simp [by8]
theorem by8_one (l : List Nat) : (by8 l).all Value.oneCell' = true := by
  induction l with
  | nil => rfl
  | cons n l ih => unfold by8 at ih ⊢; rw [List.map_cons, List.all_cons, ih]; rfl
theorem by8_append (l r : List Nat) : by8 (l ++ r) = by8 l ++ by8 r := by simp [by8]
theorem by8_drop (l : List Nat) (k : Nat) : by8 (l.drop k) = (by8 l).drop k := by simp [by8]
theorem by8_take (l : List Nat) (k : Nat) : by8 (l.take k) = (by8 l).take k := by simp [by8]
theorem by8_get {l : List Nat} {i n : Nat} (h : l[i]? = some n) : (by8 l)[i]? = some (.int .u8 (n : Int)) := by simp [by8, h]
theorem Byt.drop {l : List Nat} (h : Byt l) (k : Nat) : Byt (l.drop k) := fun n hn => h n (List.mem_of_mem_drop hn)
theorem Byt.take {l : List Nat} (h : Byt l) (k : Nat) : Byt (l.take k) := fun n hn => h n (List.mem_of_mem_take hn)
theorem Byt.append {l r : List Nat} (h : Byt l) (h' : Byt r) : Byt (l ++ r) := fun n hn => (List.mem_append.1 hn).elim (h n) (h' n)
theorem by8_inj {l r : List Nat} (h : by8 l = by8 r) : l = r := by
  unfold by8 at h
  refine (List.map_inj_right (fun x y e => ?_)).1 h
  simp only [Value.int.injEq, true_and] at e
  omega
/-- Bytes that were handed in. -/
theorem bytes_of {ns : List Int} (h : ∀ x ∈ ns, (Lit.int .u8 x).wf = true) : ∃ l : List Nat, ns.map (Value.int .u8) = by8 l ∧ Byt l ∧ l.length = ns.length := by
  refine ⟨ns.map Int.toNat, ?_, ?_, by simp⟩
  · unfold by8
    rw [List.map_map]
    apply List.map_congr_left
    intro x hx
    have := h x hx
    simp only [Lit.wf, Bool.and_eq_true, decide_eq_true_eq] at this
    have e1 : IntKind.u8.min = 0 := by decide
    simp only [Function.comp, Value.int.injEq, true_and]
    omega
  · intro n hn
    obtain ⟨x, hx, rfl⟩ := List.mem_map.1 hn
    have := h x hx
    simp only [Lit.wf, Bool.and_eq_true, decide_eq_true_eq] at this
    have e1 : IntKind.u8.min = 0 := by decide
    have e2 : IntKind.u8.max = 255 := by decide
    omega

theorem cel8 {β : Nat → Option Obj} {σ : Heap} {b off i n : Nat} {l : List Nat} (h : ∀ (j : Nat) (u : Value), (by8 l)[j]? = some u → Cel β σ b (off + j) u) (hi : l[i]? = some n) : Cel β σ b (off + (i : Int).toNat * 1) (.int .u8 (n : Int)) := by
  have := h _ _ (by8_get hi)
  rwa [show (i : Int).toNat * 1 = i by omega]
/-- The number of bytes, the highest first. -/
def num (l : List Nat) : Nat := l.foldl (fun a b => 256 * a + b) 0
theorem num_snoc (l : List Nat) (b : Nat) : num (l ++ [b]) = 256 * num l + b := by simp [num]
theorem num_lt : ∀ (n : Nat) (l : List Nat), l.length = n → Byt l → num l < 256 ^ n
  | 0, l, hl, _ => by rw [List.length_eq_zero_iff.1 hl]; simp [num]
  | n + 1, l, hl, hb => by
    have hne : l ≠ [] := fun e => by rw [e] at hl; simp at hl
    rw [← List.dropLast_concat_getLast hne]
    rw [num_snoc]
    have h1 := num_lt n l.dropLast (by simp [hl]) (fun x hx => hb x (List.dropLast_subset _ hx))
    have h2 := hb _ (List.getLast_mem hne)
    rw [Nat.pow_succ]
    omega
theorem or_u64 {a b : Nat} (ha : a < 72057594037927936) (hb : b < 256) : bits .or .u64 ((a : Int) * 2 ^ 8) (b : Int) = ((256 * a + b : Nat) : Int) := by
  rw [bits_join .u64 64 (by decide) (fun n h0 h1 => ?_) 8 ((a : Int) * 2 ^ 8) (b : Int) (by omega) (by simp) (by omega) (by omega) (by omega) (by omega)]
  · omega
  · have : (2 : Int) ^ 64 = 18446744073709551616 := by decide
    simp only [IntKind.wrap, IntKind.bits, IntKind.signed, Bool.false_and]
    simp
    exact Int.emod_eq_of_lt h0 h1
theorem wrap_u64 {n : Nat} (h : n < 18446744073709551616) : IntKind.u64.wrap (n : Int) = (n : Int) := by
  simp only [IntKind.wrap, IntKind.bits, IntKind.signed, Bool.false_and]
  simp
  exact Int.emod_eq_of_lt (by omega) (by omega)
end Go.K
end
section
namespace Go.K
open Go Go.RowKit

theorem Sub.perm {σ σ' : Heap} {w : World} (h : List.Perm σ σ') (hh : Has σ w) : Sub σ' σ :=
  ⟨fun _ hp => h.mem_iff.2 hp, (show List.Nodup (List.map (fun p : Nat × Obj => p.1) σ') from (h.map _).nodup_iff.1 hh.nodup)⟩

theorem SL.ofBlk {β : Nat → Option Obj} {σ : Heap} {b n m : Nat} {xs : List Value} {e : TypeId} (h : (b, cl xs e) ∈ σ) (hl : xs.length = m * n) : SL β σ n m xs (some ⟨b, 0, none⟩) :=
  ⟨hl, fun _ => ⟨b, 0, rfl, fun j u hj => .inl ⟨xs, e, h, by simpa using hj⟩⟩⟩
theorem adv_none {n m l : Nat} {p : Option Addr} (h : K.adv n p m l = none) : p = none := by
  unfold K.adv at h; split at h
  · exact h
  · cases p <;> simp at h ⊢

/-- What is told at the end, in another order. -/
theorem Tr.perm {P : Program} {f : FuncId} {args : List Value} {β : Nat → Option Obj} {σ : Heap} {R : Value → Heap → Prop} (h : Tr P f args β σ (fun v σ' => ∃ φ, List.Perm σ' φ ∧ R v φ)) : Tr P f args β σ R :=
  ⟨h.1, fun w hw hh => (h.2 w hw hh).mono fun e w' ⟨v, σ', h1, ⟨φ, h2, h3⟩, h4⟩ => ⟨v, φ, h1, h3, h4.sub (Sub.perm h2 h4.has)⟩⟩

section
variable {C : Cx} {L : Look} {ops : List Oper} {Q : KQ} {o : Oper} {rest : List Oper} {fr : Fr} {σ : Heap} {d : Nat} {g : Bool}
theorem Le.perm {fr' : Fr} {σ' : Heap} (hf : FLe fr fr') (h : List.Perm σ σ') : Le C fr σ fr' σ' := fun a w hS => hS.weak (hf a hS.fr) (Sub.perm h hS.own.has)
theorem KW.perm {c : Code} {σ' : Heap} (h : List.Perm σ σ') (hk : KW C Q c fr σ') : KW C Q c fr σ := fun a w hS => hk a w (hS.weak hS.fr (Sub.perm h hS.own.has))
theorem KO.perm {l : List Oper} {σ' : Heap} (h : List.Perm σ σ') (hk : KO C ops Q l fr σ') : KO C ops Q l fr σ := fun a w hS => hk a w (hS.weak hS.fr (Sub.perm h hS.own.has))
/-- Some alone, in whatever order. -/
theorem Le.permS {fr' : Fr} {σ' φ : Heap} (hf : FLe fr fr') (h : List.Perm σ (σ' ++ φ)) : Le C fr σ fr' σ' := fun a w hS =>
  (hS.weak (hf a hS.fr) (Sub.perm h hS.own.has)).weak (hf a hS.fr) (Sub.of_sublist (List.sublist_append_left _ _) (hS.own.has.sub (Sub.perm h hS.own.has)))
theorem KW.permS {c : Code} {σ' φ : Heap} (h : List.Perm σ (σ' ++ φ)) (hk : KW C Q c fr σ') : KW C Q c fr σ := KW.le (Le.permS (FLe.refl _) h) hk
theorem KO.permS {l : List Oper} {σ' φ : Heap} (h : List.Perm σ (σ' ++ φ)) (hk : KO C ops Q l fr σ') : KO C ops Q l fr σ := KO.le (Le.permS (FLe.refl _) h) hk

theorem eo_callF {x : Operand} {f : FuncId} {first cap : List Value} {args : Array Operand} {ts : Array TypeId} {gs : List Bool} {vs : List Value} {R : Value → Heap → Prop} (σf φ : Heap) (hp : List.Perm σ (σf ++ φ))
    (ho : o.op = .call ⟨.value x, args, ts⟩) (hx : opnd L x = some (true, .func (.func f) first.toArray cap.toArray)) (ha : opnds L args.toList = some (gs, vs)) (hi : gs.all id = true) (hT : Tr C.P f (first ++ vs ++ cap) C.E.β σf R) : EO C L σ o (fun v s => ∃ σ', R v σ' ∧ s = σ' ++ φ) := fun a w hL hO => .inr (.inr (by
  have hsub := Sub.perm hp hO.has
  have hh := hO.has.sub hsub
  have hhf : Has σf w := ⟨fun p hp => hh.has p (List.mem_append_left _ hp), by have := hh.nodup; rw [keys_append] at this; exact (List.nodup_append.1 this).1⟩
  refine ⟨f, _, run_call hT.1 ho (opnd_ev hL hx rfl) (opnds_ok hL ha hi), ?_⟩
  have e : (first.toArray ++ vs.toArray) ++ cap.toArray = (first ++ vs ++ cap).toArray := by simp
  rw [e]
  refine (hT.2 w (fun b o hb => ⟨(hO.ro hb).1, fun hm => (hO.ro hb).2 (hsub.keys b (by rw [keys_append]; exact List.mem_append_left _ hm))⟩) hhf).mono ?_
  rintro e w' ⟨v, σ', h1, h2, h3⟩
  have h4 := h3.frame hh
  exact ⟨v, h1, σ' ++ φ, ⟨σ', h2, rfl⟩, ⟨h4.os, h4.tape, h4.output, h4.size, fun b hb hnb => h4.old b hb (fun hm => hnb (hsub.keys b hm)), h4.has, fun b hb => (h4.new b hb).imp (hsub.keys b) id⟩⟩))
theorem KO.callF {x : Operand} {f : FuncId} {first cap : List Value} {args : Array Operand} {ts : Array TypeId} {gs : List Bool} {vs : List Value} {R : Value → Heap → Prop} (σf φ : Heap) (hp : List.Perm σ (σf ++ φ))
    (hg : guardOf ops (look fr) o = some true) (hd : o.dst = some d) (hn : Nat.blt d C.N = true) (ho : o.op = .call ⟨.value x, args, ts⟩) (hx : opnd (look fr) x = some (true, .func (.func f) first.toArray cap.toArray)) (ha : opnds (look fr) args.toList = some (gs, vs)) (hi : gs.all id = true)
    (hT : Tr C.P f (first ++ vs ++ cap) C.E.β σf R) (h : ∀ v σ', R v σ' → KO C ops Q rest ((d, true, v) :: fr) (σ' ++ φ)) : KO C ops Q (o :: rest) fr σ :=
  KO.ofEO hg hd hn (eo_callF σf φ hp ho hx ha hi hT) (fun v s ⟨σ', h1, h2⟩ => by subst h2; exact h v σ' h1)
theorem KO.callF0 {x : Operand} {f : FuncId} {first cap : List Value} {args : Array Operand} {ts : Array TypeId} {gs : List Bool} {vs : List Value} {R : Value → Heap → Prop} (σf φ : Heap) (hp : List.Perm σ (σf ++ φ))
    (hg : guardOf ops (look fr) o = some true) (hd : o.dst = none) (ho : o.op = .call ⟨.value x, args, ts⟩) (hx : opnd (look fr) x = some (true, .func (.func f) first.toArray cap.toArray)) (ha : opnds (look fr) args.toList = some (gs, vs)) (hi : gs.all id = true)
    (hT : Tr C.P f (first ++ vs ++ cap) C.E.β σf R) (h : ∀ v σ', R v σ' → KO C ops Q rest fr (σ' ++ φ)) : KO C ops Q (o :: rest) fr σ :=
  KO.ofEO0 hg hd (eo_callF σf φ hp ho hx ha hi hT) (fun v s ⟨σ', h1, h2⟩ => by subst h2; exact h v σ' h1)
/-- 'append' to a row whose block lies wherever. -/
theorem KO.appendF {s x : Operand} {t e : TypeId} {z : Value} {n by' m k c bx ox : Nat} {zs xs news : List Value} {v : Value} (ρ φ : Heap) (hp : List.Perm σ (ρ ++ φ)) (hg : guardOf ops (look fr) o = some true) (hd : o.dst = some d) (hn : Nat.blt d C.N = true) (ho : o.op = .call ⟨.builtin .append, #[s, x], #[t, t]⟩)
    (hs : opnd (look fr) s = some (true, v)) (hx : opnd (look fr) x = some (true, .slice (some ⟨bx, ox, none⟩) k c)) (hu : C.T.u t = some (.slice e)) (hz : C.T.i e = some (z, n, by')) (hzc : vcells z = some zs) (hzl : zs.length = n) (hn0 : 0 < n)
    (hv : Vec e n m xs v φ) (hl : news.length = k * n) (hnews : ∀ j u, news[j]? = some u → Cel C.E.β σ bx (ox + j) u) (h1 : news.all Value.oneCell' = true) (hm : m + k ≤ maxLen) (hby : (m + k) * by' ≤ 140737488355328)
    (h : ∀ v' φ', Vec e n (m + k) (xs ++ news) v' φ' → KO C ops Q rest ((d, true, v') :: fr) (ρ ++ φ')) : KO C ops Q (o :: rest) fr σ :=
  KO.perm hp (KO.append ρ φ hg hd hn ho hs hx hu hz hzc hzl hn0 rfl hv hl (fun j u hj => (hnews j u hj).mono (fun _ hq => hp.mem_iff.1 hq)) h1 hm hby h)

theorem run_append_none {P : Program} {T : TT P} {t ty e : Nat} {z : Value} {n by' : Nat} (ht : T.u t = some (.slice e)) (hz : T.i e = some (z, n, by')) (w : World) (p : Option Addr) (m c : Nat) (hmc : m ≤ c) :
    (Builtin.append_ #[t, t] ty #[.slice p m c, .slice none 0 0]).run P w = .ok (.slice p m c) w := by
  obtain ⟨i, hi1, _, _, _⟩ := TT.i_ok hz
  cases p <;> simp [Builtin.append_, run_underlying (TT.u_ok ht), sizeOf, typeInfo, hi1, Builtin.lenOf, Builtin.firstCells, loadCells, loadCellsFrom, hmc, storeCells]
theorem Vec.cap {e n m : Nat} {xs : List Value} {p : Option Addr} {k c : Nat} {φ : Heap} (h : Vec e n m xs (.slice p k c) φ) : k = m ∧ m ≤ c := by
  rcases h.2 with ⟨h1, h2, _⟩ | ⟨g, cap, sp, h1, _, h3, _⟩
  · simp only [Value.slice.injEq] at h1; omega
  · simp only [Value.slice.injEq] at h1; omega
/-- 'append' of a slice that can be read. -/
theorem KO.appendL {s x : Operand} {t e : TypeId} {z : Value} {n by' m k c cv : Nat} {zs xs news : List Value} {pv p : Option Addr} (ρ φ : Heap) (hp : List.Perm σ (ρ ++ φ)) (hg : guardOf ops (look fr) o = some true) (hd : o.dst = some d) (hn : Nat.blt d C.N = true) (ho : o.op = .call ⟨.builtin .append, #[s, x], #[t, t]⟩)
    (hs : opnd (look fr) s = some (true, .slice pv m cv)) (hx : opnd (look fr) x = some (true, .slice p k c)) (hu : C.T.u t = some (.slice e)) (hz : C.T.i e = some (z, n, by')) (hzc : vcells z = some zs) (hzl : zs.length = n) (hn0 : 0 < n)
    (hv : Vec e n m xs (.slice pv m cv) φ) (hnews : SL C.E.β σ n k news p) (hpc : p = none → c = 0 ∧ k = 0) (h1 : news.all Value.oneCell' = true) (hm : m + k ≤ maxLen) (hby : (m + k) * by' ≤ 140737488355328)
    (h : ∀ v' φ', Vec e n (m + k) (xs ++ news) v' φ' → KO C ops Q rest ((d, true, v') :: fr) (ρ ++ φ')) : KO C ops Q (o :: rest) fr σ := by
  refine KO.perm hp ?_
  have hnews' := hnews.mono (fun _ hq => hp.mem_iff.1 hq)
  have hcap := hv.cap
  cases p with
  | none =>
    obtain ⟨rfl, rfl⟩ := hpc rfl
    have hnil : news = [] := by have := hnews.1; simpa using this
    subst hnil
    refine KO.eff (Post := fun v' σ' => v' = .slice pv m cv ∧ σ' = ρ ++ φ) hg hd hn (fun a w hL hO => .inl ?_) ?_
    · refine ⟨_, w, ?_, _, ⟨rfl, rfl⟩, Stp.refl hO.has⟩
      have hr := run_append_none (P := C.P) (ty := o.type) hu hz w pv m cv hcap.2
      simp [execOp, ho, resolve, invoke, builtin, opnd_ev hL hs rfl, opnd_ev hL hx rfl]
      rw [hr]
      simp
    · rintro v' σ' ⟨rfl, rfl⟩
      exact h _ φ (by simpa using hv)
  | some a =>
    refine KO.eff (Post := fun v' σ' => ∃ φ', Vec e n (m + k) (xs ++ news) v' φ' ∧ σ' = ρ ++ φ') hg hd hn (fun ac w hL hO => .inl ?_) ?_
    · obtain ⟨v', w', φ', r1, r2, r3⟩ := run_append (ty := o.type) (a := a) (c := c) hu hz hzc hzl hn0 hv hO.has hnews'.1 (fun j u hj => by
        have hk : 0 < k := by
          rcases Nat.eq_zero_or_pos k with h0 | h0
          · subst h0
            have := hnews'.1
            simp at this
            subst this
            simp at hj
          · exact h0
        obtain ⟨bx, ox, h2, h3⟩ := hnews'.2 hk
        simp only [Option.some.injEq] at h2
        subst h2
        rw [Addr.add_lit]; exact (h3 j u hj).ok hO) h1 hm hby
      refine ⟨v', w', ?_, ρ ++ φ', ⟨φ', r2, rfl⟩, r3⟩
      simp [execOp, ho, resolve, invoke, builtin, opnd_ev hL hs rfl, opnd_ev hL hx rfl]
      rw [r1]
      simp
    · rintro v' σ' ⟨φ', h2, rfl⟩
      exact h v' φ' h2
end
/-- Bytes that were handed in. -/
structure BIn (β : Nat → Option Obj) (p : Option Addr) (m c : Nat) (l : List Nat) : Prop where
  len : l.length = m
  byt : Byt l
  sl : SL β [] 1 m (by8 l) p
  none : p = none → c = 0 ∧ m = 0
  cap : m ≤ c
  bd : m ≤ 140737488351232
theorem rd_bytes {P : Program} {β : Nat → Option Obj} {t e : TypeId} {c : Value} (hu : P.underlying t = some (.slice e)) (he : P.underlying e = some (.int .u8)) (hl : lvs P 8 e = some [e]) (hn : P.cellsOf e = 1) (hb : P.bytesOf e = 1) (h : ∃ n, Rd P β n t [c]) :
    ∃ p m cap l, c = .slice p m cap ∧ BIn β p m cap l := by
  obtain ⟨p, m, cap, xs, rfl, hs, hr⟩ := rd_slice (k := 8) (ts := [e]) hu hl (by rw [hn]; rfl) h
  have hs' := hs
  obtain ⟨h1, h2, h3, h4, h5, h6⟩ := hs
  rw [hb] at h2
  obtain ⟨ns, rfl, hns⟩ := ints_of he (m := m) (xs := xs) (by simpa using h5) (by simpa using hr)
  obtain ⟨l, e1, e2, e3⟩ := bytes_of hns
  refine ⟨p, m, cap, l, rfl, ⟨by rw [e3]; simpa using h5, e2, ?_, fun h => ⟨h4 h, by have := h4 h; omega⟩, h1, by omega⟩⟩
  rw [← e1]
  exact SL.ofR (by omega) hs'
end Go.K
end
section
namespace Go.K
open Go Go.RowKit

section
variable {C : Cx} {ops : List Oper} {Q : KQ} {σ : Heap} {t m : Nat} {o : Oper} {rest : List Oper} {fr : Fr} {d : Nat} {g : Bool} {v : Value}

structure ChkB (ops : List Oper) (t m : Nat) : Prop where
  low : ∀ i o, ops[i]? = some o → ∀ j ∈ depsOf o, j < i
  pair : ∀ i o k ok s, t ≤ i → i < m → t ≤ k → k < m → ops[i]? = some o → ops[k]? = some ok → ok.dst = some s → i ≠ k → (s ∈ namesOf ops o ∨ o.dst = some s) → if k < i then Bef ops k i else Bef ops i k
  tail : ∀ i o k, m ≤ i → ops[i]? = some o → t ≤ k → k < m → Bef ops k i

structure RunB (C : Cx) (ops : List Oper) (σ : Heap) (t m : Nat) (gs : Nat → Bool) (vs : Nat → Value) (frs : Nat → Fr) : Prop where
  at_ : ∀ k o, t ≤ k → k < m → ops[k]? = some o → (guardOf ops (LR (namesOf ops o) (look (frs k))) o = some (gs k) ∨ guardIn ops (LR (namesOf ops o) (look (frs k))) o = some (gs k)) ∧ okDst C.N o.dst = true ∧
    Qt C (LR (namesOf ops o) (look (frs k))) σ (gs k) o (vs k) ∧ frs (k + 1) = pushFr o.dst (gs k) (vs k) (frs k)

def SrcB (ops : List Oper) (t : Nat) (gs : Nat → Bool) (vs : Nat → Value) (frs : Nat → Fr) (i s : Nat) (g : Bool) (v : Value) : Prop :=
    (∃ k o, t ≤ k ∧ k < i ∧ ops[k]? = some o ∧ o.dst = some s ∧ g = gs k ∧ v = vs k ∧ ∀ k' o', t ≤ k' → k' < i → ops[k']? = some o' → o'.dst = some s → k' ≤ k) ∨
    ((∀ k o, t ≤ k → k < i → ops[k]? = some o → o.dst ≠ some s) ∧ look (frs t) s = some (g, v))
theorem RunB.src {gs : Nat → Bool} {vs : Nat → Value} {frs : Nat → Fr} (h : RunB C ops σ t m gs vs frs) (hm : m ≤ ops.length) : ∀ n, t + n ≤ m → ∀ s g v, look (frs (t + n)) s = some (g, v) → SrcB ops t gs vs frs (t + n) s g v
  | 0, _, s, g, v, hl => .inr ⟨fun k o hk hk2 => by omega, hl⟩
  | n + 1, hi, s, g, v, hl => by
    have ho : ops[t + n]? = some ops[t + n] := List.getElem?_eq_getElem (by omega)
    obtain ⟨_, _, _, h4⟩ := h.at_ (t + n) _ (by omega) (by omega) ho
    rw [show t + (n + 1) = t + n + 1 by omega] at hl ⊢
    rw [h4] at hl
    have old : look (frs (t + n)) s = some (g, v) → ops[t + n].dst ≠ some s → SrcB ops t gs vs frs (t + n + 1) s g v := fun hl' hne => by
      have ih := RunB.src h hm n (by omega) s g v hl'
      rcases ih with ⟨k, o, a0, a1, a2, a3, a4, a5, a6⟩ | ⟨a1, a2⟩
      · refine Or.inl ⟨k, o, a0, by omega, a2, a3, a4, a5, fun k' o' hk0 hk' ho' hd' => ?_⟩
        by_cases e : k' = t + n
        · subst e; rw [ho] at ho'; rw [← Option.some.inj ho'] at hd'; exact absurd hd' hne
        · exact a6 k' o' hk0 (by omega) ho' hd'
      · refine Or.inr ⟨fun k o hk0 hk hok hd => ?_, a2⟩
        by_cases e : k = t + n
        · subst e; rw [ho] at hok; rw [← Option.some.inj hok] at hd; exact absurd hd hne
        · exact a1 k o hk0 (by omega) hok hd
    cases hd : ops[t + n].dst with
    | none => rw [hd] at hl; exact old hl (by rw [hd]; simp)
    | some d =>
      rw [hd] at hl
      simp only [pushFr] at hl
      unfold look at hl
      cases hb : Nat.beq d s with
      | true =>
        rw [hb] at hl
        simp only [cond_true, Option.some.injEq, Prod.mk.injEq] at hl
        have e := Nat.eq_of_beq_eq_true hb
        subst e
        exact .inl ⟨t + n, ops[t + n], by omega, by omega, ho, hd, hl.1.symm, hl.2.symm, fun k' _ _ hk' _ _ => by omega⟩
      | false =>
        rw [hb] at hl
        exact old hl (by rw [hd]; intro e; rw [Option.some.inj e] at hb; simp at hb)

/-- The state when the listed ones have been carried out: all ahead of t, none behind m. -/
structure InvB (C : Cx) (ops : List Oper) (σ : Heap) (t m : Nat) (gs : Nat → Bool) (vs : Nat → Value) (a0 : Act) (L : Array Bool) (a : Act) (w : World) : Prop where
  size : L.size = ops.length
  closed : ∀ i o, ops[i]? = some o → L.getD i false = true → ∀ j ∈ depsOf o, L.getD j false = true
  base : ∀ i, i < t → L.getD i false = true
  pre : ∀ i, m ≤ i → L.getD i false = false
  n : a.tmps.size = C.N
  wrote : ∀ s k o, t ≤ k → L.getD k false = true → ops[k]? = some o → o.dst = some s → (∀ k' o', t ≤ k' → L.getD k' false = true → ops[k']? = some o' → o'.dst = some s → k' ≤ k) → a.tmps[s]? = some (gv (gs k) (vs k))
  kept : ∀ s, (∀ k o, t ≤ k → L.getD k false = true → ops[k]? = some o → o.dst ≠ some s) → a.tmps[s]? = a0.tmps[s]?
  own : Own C.E σ w
  defs : Defs C σ a w
  hid : Hid C σ w

theorem InvB.next {gs : Nat → Bool} {vs : Nat → Value} {a0 a : Act} {L : Array Bool} {w w' : World} {i : Nat} (hC : ChkB ops t m) (hI : InvB C ops σ t m gs vs a0 L a w) (hti : t ≤ i) (hi : i < m) (ho : ops[i]? = some o) (hun : L.getD i false = false) (hd : ∀ j ∈ depsOf o, L.getD j false = true)
    (hok : okDst C.N o.dst = true) (hb : Below w.heap.size w w') : InvB C ops σ t m gs vs a0 (L.setIfInBounds i true) (a.put o.dst (gv (gs i) (vs i))) w' := by
  have hil : i < L.size := by rw [hI.size]; exact (List.getElem?_eq_some_iff.1 ho).1
  have hst := Stp.of_below hb hI.own.has
  have hlow : ∀ k ok s, t ≤ k → L.getD k false = true → ops[k]? = some ok → ok.dst = some s → o.dst = some s → k < i := fun k ok s htk hk hok' hks his => by
    have hkm : k < m := by
      rcases Nat.lt_or_ge k m with h | h
      · exact h
      · rw [hI.pre k h] at hk; cases hk
    have hne : i ≠ k := fun e => by subst e; rw [hun] at hk; cases hk
    have h1 := hC.pair k ok i o s htk hkm hti hi hok' ho his (Ne.symm hne) (.inr hks)
    by_cases hlt : i < k
    · rw [if_pos hlt] at h1
      have := h1.listed hI.closed hk
      rw [hun] at this; cases this
    · omega
  refine ⟨by simpa using hI.size, fun k ok hk hl j hj => ?_, fun k hk => ?_, fun k hk => ?_, by rw [put_size]; exact hI.n, fun s k ok htk hl hk hks hmax => ?_, fun s hno => ?_, hI.own.step hst, ?_, hI.hid.step hst⟩
  · rw [getD_set hil] at hl ⊢
    by_cases e : j = i
    · rw [if_pos e]
    · rw [if_neg e]
      by_cases e2 : k = i
      · subst e2; rw [ho] at hk; rw [← Option.some.inj hk] at hj; exact hd j hj
      · rw [if_neg e2] at hl; exact hI.closed k ok hk hl j hj
  · rw [getD_set hil]; split
    · rfl
    · exact hI.base k hk
  · rw [getD_set hil, if_neg (by omega)]; exact hI.pre k hk
  · rw [okDst_put hI.n hok]
    by_cases e2 : k = i
    · subst e2
      rw [ho] at hk
      rw [Option.some.inj hk, if_pos hks]
    · rw [getD_set hil, if_neg e2] at hl
      have hne : o.dst ≠ some s := fun his => by
        have h1 := hlow k ok s htk hl hk hks his
        have h2 := hmax i o hti (by rw [getD_set hil, if_pos rfl]) ho his
        omega
      rw [if_neg hne]
      exact hI.wrote s k ok htk hl hk hks (fun k' o' ht' hl' hk' hs' => hmax k' o' ht' (by rw [getD_set hil]; split <;> simp_all) hk' hs')
  · rw [okDst_put hI.n hok, if_neg (hno i o hti (by rw [getD_set hil, if_pos rfl]) ho)]
    exact hI.kept s (fun k ok ht' hl hk => hno k ok ht' (by rw [getD_set hil]; split <;> simp_all) hk)
  · obtain ⟨dl, h1, h2, h3⟩ := hI.defs.step hst
    refine ⟨dl, ?_, h2, h3⟩
    cases o.dst <;> exact h1

theorem InvB.names {gs : Nat → Bool} {vs : Nat → Value} {frs : Nat → Fr} {a0 a : Act} {L : Array Bool} {w : World} {i : Nat} (hC : ChkB ops t m) (hm : m ≤ ops.length) (hR : RunB C ops σ t m gs vs frs) (h0 : LOk (look (frs t)) a0) (hI : InvB C ops σ t m gs vs a0 L a w) (hti : t ≤ i) (hi : i < m)
    (ho : ops[i]? = some o) (hun : L.getD i false = false) (hd : ∀ j ∈ depsOf o, L.getD j false = true) : LOk (LR (namesOf ops o) (look (frs i))) a := by
  intro s g v hs
  obtain ⟨hn, hl⟩ := LR_some hs
  have hlow : ∀ k ok, t ≤ k → L.getD k false = true → ops[k]? = some ok → ok.dst = some s → k < i := fun k ok htk hk hok' hks => by
    have hkm : k < m := by
      rcases Nat.lt_or_ge k m with h | h
      · exact h
      · rw [hI.pre k h] at hk; cases hk
    have hne : i ≠ k := fun e => by subst e; rw [hun] at hk; cases hk
    have h1 := hC.pair i o k ok s hti hi htk hkm ho hok' hks hne (.inl hn)
    by_cases hlt : k < i
    · exact hlt
    · rw [if_neg hlt] at h1
      have := h1.listed hI.closed hk
      rw [hun] at this; cases this
  obtain ⟨n, rfl⟩ : ∃ n, i = t + n := ⟨i - t, by omega⟩
  rcases hR.src hm n (by omega) s g v hl with ⟨k, ok, a0', a1, a2, a3, rfl, rfl, a6⟩ | ⟨a1, a2⟩
  · have h1 := hC.pair (t + n) o k ok s hti hi a0' (by omega) ho a2 a3 (by omega) (.inl hn)
    rw [if_pos a1] at h1
    exact hI.wrote s k ok a0' (h1.listed' hI.closed ho hd) a2 a3 (fun k' o' ht' hk' ho' hs' => a6 k' o' ht' (hlow k' o' ht' hk' ho' hs') ho' hs')
  · rw [hI.kept s (fun k ok ht' hk hok' hks => a1 k ok ht' (hlow k ok ht' hk hok' hks) hok' hks)]
    exact h0 s g v a2

theorem any_headB {gs : Nat → Bool} {vs : Nat → Value} {frs : Nat → Fr} {a0 : Act} (hC : ChkB ops t m) (htm : t ≤ m) (hm : m ≤ ops.length) (hR : RunB C ops σ t m gs vs frs) (h0 : LOk (look (frs t)) a0)
    (hK : ∀ L a w, L.size = ops.length → (∀ k, L.getD k false = decide (k < m)) → St C (frs m) σ a w → wpAnyIn (fnc C.r) 0 C.P .any ops.toArray (lift C Q) (ops.length - m) L a w) : ∀ (f c : Nat) (L : Array Bool) (a : Act) (w : World),
    c = ((List.range m).filter fun i => !L.getD i false).length → f = c + (ops.length - m) → InvB C ops σ t m gs vs a0 L a w → wpAnyIn (fnc C.r) 0 C.P .any ops.toArray (lift C Q) f L a w
  | f, 0, L, a, w, hc, hf, hI => by
    have hall : ∀ i, i < m → L.getD i false = true := fun i hi => by
      have he : ((List.range m).filter fun i => !L.getD i false) = [] := List.eq_nil_of_length_eq_zero hc.symm
      have := (List.filter_eq_nil_iff.1 he) i (List.mem_range.2 hi)
      simpa using this
    have hf' : f = ops.length - m := by omega
    subst hf'
    refine hK L a w hI.size (fun k => ?_) ⟨hI.n, fun s g v hl => ?_, hI.own, hI.defs, hI.hid⟩
    · by_cases hk : k < m
      · simp [hall k hk, hk]
      · simp [hI.pre k (by omega), hk]
    · obtain ⟨n, rfl⟩ : ∃ n, m = t + n := ⟨m - t, by omega⟩
      rcases hR.src hm n (Nat.le_refl _) s g v hl with ⟨k, ok, a0', a1, a2, a3, rfl, rfl, a6⟩ | ⟨a1, a2⟩
      · exact hI.wrote s k ok a0' (hall k a1) a2 a3 (fun k' o' ht' hk' ho' hs' => a6 k' o' ht' (by
          rcases Nat.lt_or_ge k' (t + n) with h | h
          · exact h
          · rw [hI.pre k' h] at hk'; cases hk') ho' hs')
      · rw [hI.kept s (fun k ok ht' hk hok' hks => a1 k ok ht' (by
          rcases Nat.lt_or_ge k (t + n) with h | h
          · exact h
          · rw [hI.pre k h] at hk; cases hk) hok' hks)]
        exact h0 s g v a2
  | 0, c + 1, L, a, w, hc, hf, hI => by omega
  | f + 1, c + 1, L, a, w, hc, hf, hI => by
    obtain ⟨u, hu, hun⟩ : ∃ u, u < m ∧ L.getD u false = false := by
      have : ((List.range m).filter fun i => !L.getD i false) ≠ [] := fun e => by rw [e] at hc; simp at hc
      obtain ⟨u, hu⟩ := List.exists_mem_of_ne_nil _ this
      rw [List.mem_filter] at hu
      exact ⟨u, List.mem_range.1 hu.1, by simpa using hu.2⟩
    have hut : t ≤ u := by
      rcases Nat.lt_or_ge u t with h | h
      · rw [hI.base u h] at hun; cases hun
      · exact h
    have hhead : ∀ i ∈ Region.ready .any ops.toArray L, i < m := fun i hi => by
      obtain ⟨h1, o, ho, hd⟩ := mem_ready' hi
      rcases Nat.lt_or_ge i m with h | h
      · exact h
      · have hb := hC.tail i o u h ho hut hu
        have := hb.listed' hI.closed ho hd
        rw [hun] at this; cases this
    refine ⟨fun he => ?_, fun i hi => ?_⟩
    · exfalso
      have key : ∀ n u, u < n → u < m → L.getD u false = false → False := by
        intro n
        induction n with
        | zero => intro u hu; omega
        | succ n ih =>
          intro u hu hum hun
          have ho : ops[u]? = some ops[u] := List.getElem?_eq_getElem (by omega)
          by_cases hd : ∀ j ∈ depsOf ops[u], L.getD j false = true
          · have := ready_of (getD_ft (by rw [hI.size]; omega) hun) ho hd
            rw [he] at this; cases this
          · obtain ⟨j, hj⟩ := Classical.not_forall.1 hd
            obtain ⟨hj1, hj2⟩ := Classical.not_imp.1 hj
            have := hC.low u _ ho j hj1
            exact ih j (by omega) (by omega) (by simpa using hj2)
      exact key (u + 1) u (by omega) hu hun
    · have him := hhead i hi
      obtain ⟨h1, o, ho, hd⟩ := mem_ready' hi
      have hun' := getD_tf h1
      have hti : t ≤ i := by
        rcases Nat.lt_or_ge i t with h | h
        · rw [hI.base i h] at hun'; cases hun'
        · exact h
      obtain ⟨g1, g2, g3, g4⟩ := hR.at_ i o hti him ho
      have hL := hI.names hC hm hR h0 hti him ho hun' hd
      have hcnt : c = ((List.range m).filter fun k => !(L.setIfInBounds i true).getD k false).length := by
        have hil : i < L.size := by rw [hI.size]; exact (List.getElem?_eq_some_iff.1 ho).1
        have e1 : ((List.range m).filter fun k => !(L.setIfInBounds i true).getD k false) = ((List.range m).filter fun k => !L.getD k false).filter (fun k => k != i) := by
          rw [List.filter_filter]
          apply List.filter_congr
          intro k _
          rw [getD_set hil]
          by_cases e : k = i
          · subst e; simp
          · simp [e]
        have hmem : i ∈ (List.range m).filter fun k => !L.getD k false := List.mem_filter.2 ⟨List.mem_range.2 him, by simpa using hun'⟩
        have hnd : ((List.range m).filter fun k => !L.getD k false).Nodup := List.nodup_range.filter _
        rw [e1, ← hnd.erase_eq_filter, List.length_erase_of_mem hmem]
        omega
      have hnext : ∀ w', Below w.heap.size w w' → wpAnyIn (fnc C.r) 0 C.P .any ops.toArray (lift C Q) f (L.setIfInBounds i true) (a.put o.dst (gv (gs i) (vs i))) w' := fun w' hb =>
        any_headB hC htm hm hR h0 hK f c _ _ w' hcnt (by omega) (hI.next hC hti him ho hun' hd g2 hb)
      unfold wpOpIn
      simp only [List.getElem?_toArray, ho]
      have hw : Region.wanted o (yielded ops.toArray a.tmps) = gs i := by
        rcases g1 with g1 | g1
        · exact guardOf_ok hL g1
        · exact guardIn_ok hL g1
      rw [hw]
      cases hgi : gs i with
      | true =>
        rw [if_pos rfl]
        rw [hgi] at g3
        refine (g3.eff hL hI.own).wpIn ?_
        rintro x w' ⟨rfl, hb⟩
        have := hnext w' hb
        rw [hgi] at this
        exact this
      | false =>
        rw [if_neg (by simp)]
        refine ⟨fun _ _ => trivial, ?_⟩
        have := hnext w (Below.refl _ _)
        rw [hgi] at this
        exact this

/-! ### The judgement -/
/-- The first m quiet, then one effect, then n quiet ones (then nothing). -/
def KDE (C : Cx) (ops : List Oper) (Q : KQ) (σ : Heap) (n : Nat) : Nat → List Oper → Fr → Prop
  | 0, [], _ => False
  | 0, o :: rest, fr => ∃ R d, guardOf ops (look fr) o = some true ∧ o.dst = some d ∧ Nat.blt d C.N = true ∧ EO C (look fr) σ o R ∧ ∀ v σ', R v σ' → KD C ops Q σ' n rest ((d, true, v) :: fr)
  | _ + 1, [], _ => False
  | m + 1, o :: rest, fr => ∃ g v, (guardOf ops (LR (namesOf ops o) (look fr)) o = some g ∨ guardIn ops (LR (namesOf ops o) (look fr)) o = some g) ∧ okDst C.N o.dst = true ∧
      Qt C (LR (namesOf ops o) (look fr)) σ g o v ∧ KDE C ops Q σ n m rest (pushFr o.dst g v fr)

theorem KDE.val {n : Nat} (hg : guardOf ops (LR (namesOf ops o) (look fr)) o = some g) (hd : o.dst = some d) (hn : Nat.blt d C.N = true) (hq : Qt C (LR (namesOf ops o) (look fr)) σ g o v) (h : KDE C ops Q σ n m rest ((d, g, v) :: fr)) : KDE C ops Q σ n (m + 1) (o :: rest) fr :=
  ⟨g, v, .inl hg, by rw [hd]; exact hn, hq, by rw [hd]; exact h⟩
theorem KDE.valIn {n : Nat} (hg : guardIn ops (LR (namesOf ops o) (look fr)) o = some g) (hd : o.dst = some d) (hn : Nat.blt d C.N = true) (hq : Qt C (LR (namesOf ops o) (look fr)) σ g o v) (h : KDE C ops Q σ n m rest ((d, g, v) :: fr)) : KDE C ops Q σ n (m + 1) (o :: rest) fr :=
  ⟨g, v, .inr hg, by rw [hd]; exact hn, hq, by rw [hd]; exact h⟩
theorem KDE.skip {n : Nat} (hg : guardOf ops (LR (namesOf ops o) (look fr)) o = some false) (hd : o.dst = some d) (hn : Nat.blt d C.N = true) (h : KDE C ops Q σ n m rest ((d, false, undef) :: fr)) : KDE C ops Q σ n (m + 1) (o :: rest) fr :=
  ⟨false, undef, .inl hg, (by rw [hd]; exact hn), (fun _ _ _ _ e => by cases e), (by rw [hd]; exact h)⟩
/-- The effect. -/
theorem KDE.eo {n : Nat} {R : Value → Heap → Prop} (hg : guardOf ops (look fr) o = some true) (hd : o.dst = some d) (hn : Nat.blt d C.N = true) (he : EO C (look fr) σ o R) (h : ∀ v σ', R v σ' → KD C ops Q σ' n rest ((d, true, v) :: fr)) : KDE C ops Q σ n 0 (o :: rest) fr :=
  ⟨R, d, hg, hd, hn, he, h⟩

theorem KDE.run {p : Nat} : ∀ (m : Nat) (l : List Oper) (n : Nat) (fr : Fr), (∀ j, l[j]? = ops[n + j]?) → KDE C ops Q σ p m l fr →
    ∃ (gs : Nat → Bool) (vs : Nat → Value) (frs : Nat → Fr), frs n = fr ∧ m ≤ l.length ∧ (∀ k o, n ≤ k → k < n + m → ops[k]? = some o → (guardOf ops (LR (namesOf ops o) (look (frs k))) o = some (gs k) ∨ guardIn ops (LR (namesOf ops o) (look (frs k))) o = some (gs k)) ∧ okDst C.N o.dst = true ∧
      Qt C (LR (namesOf ops o) (look (frs k))) σ (gs k) o (vs k) ∧ frs (k + 1) = pushFr o.dst (gs k) (vs k) (frs k)) ∧ KDE C ops Q σ p 0 (l.drop m) (frs (n + m))
  | 0, l, n, fr, _, h => ⟨fun _ => true, fun _ => undef, fun _ => fr, rfl, Nat.zero_le _, fun k o h1 h2 => by omega, by simpa using h⟩
  | m + 1, [], n, fr, _, h => h.elim
  | m + 1, o :: rest, n, fr, hl, ⟨g, v, h1, h2, h3, h4⟩ => by
    have h0 : ops[n]? = some o := by have := hl 0; simpa using this.symm
    obtain ⟨gs, vs, frs, e1, e2, e3, e4⟩ := KDE.run m rest (n + 1) _ (fun j => by have := hl (j + 1); simpa [Nat.add_assoc, Nat.add_comm 1 j] using this) h4
    refine ⟨fun k => if k = n then g else gs k, fun k => if k = n then v else vs k, fun k => if k = n then fr else frs k, by simp, by simp; omega, fun k o' k1 k2 ho' => ?_, ?_⟩
    · by_cases hk : k = n
      · subst hk
        have : o' = o := Option.some.inj (ho'.symm.trans h0)
        subst this
        have hne : k + 1 ≠ k := by omega
        simp only [if_true, hne, if_false]
        exact ⟨h1, h2, h3, e1⟩
      · have hne : k + 1 ≠ n := by omega
        simp only [hk, if_false, hne]
        exact e3 k o' (by omega) (by omega) ho'
    · have hne : n + (m + 1) ≠ n := by omega
      simp only [hne, if_false, List.drop_succ_cons]
      rw [show n + (m + 1) = n + 1 + m by omega]
      exact e4

/-! ### The check -/
def chkE (ops : List Oper) (m : Nat) : Bool :=
  let B := masks ops []
  Nat.blt m ops.length &&
  (List.range ops.length).all (fun i => match nth ops i with
    | none => true
    | some o => (depsOf o).all (fun j => decide (j < i)) &&
      (if i < m then (List.range m).all (chkPair ops B i o) else if Nat.beq i m then (List.range m).all (fun k => bit B i k)
       else (List.range (m + 1)).all (fun k => bit B i k) && ((List.range ops.length).all (fun k => Nat.ble k m || chkPair ops B i o k))))

theorem chkPair_ok {i k : Nat} {ok : Oper} {s : Nat} (h : chkPair ops (masks ops []) i o k = true) (hok : ops[k]? = some ok) (hs : ok.dst = some s) (hne : i ≠ k) (hn : s ∈ namesOf ops o ∨ o.dst = some s) : if k < i then Bef ops k i else Bef ops i k := by
  unfold chkPair at h
  rw [nth_eq, hok] at h
  simp only [hs] at h
  have e1 : Nat.beq i k = false := by
    cases hb : Nat.beq i k with
    | false => rfl
    | true => exact absurd (Nat.eq_of_beq_eq_true hb) hne
  have h3 : (if k < i then bit (masks ops []) i k else bit (masks ops []) k i) = true := by
    rcases hn with hn | hn
    · rw [e1, elemB_mem hn] at h; simpa using h
    · rw [e1, hn] at h; simpa using h
  split at h3
  · rename_i hlt; rw [if_pos hlt]; exact bit_ok h3
  · rename_i hlt; rw [if_neg hlt]; exact bit_ok h3

theorem chkE_ok (h : chkE ops m = true) : m < ops.length ∧ ChkB ops 0 m ∧ ChkB ops (m + 1) ops.length ∧ ∀ i o, m < i → ops[i]? = some o → Bef ops m i := by
  unfold chkE at h
  simp only [Bool.and_eq_true, List.all_eq_true, List.mem_range] at h
  obtain ⟨hm, h⟩ := h
  have hm : m < ops.length := Nat.le_of_ble_eq_true hm
  have key : ∀ i o, ops[i]? = some o → (∀ j ∈ depsOf o, j < i) ∧ (i < m → ∀ k, k < m → chkPair ops (masks ops []) i o k = true) ∧ (m ≤ i → ∀ k, k < m → Bef ops k i) ∧
      (m < i → Bef ops m i ∧ ∀ k, m < k → k < ops.length → chkPair ops (masks ops []) i o k = true) := by
    intro i o ho
    have hi := (List.getElem?_eq_some_iff.1 ho).1
    have h1 := h i hi
    rw [nth_eq, ho] at h1
    simp only [Bool.and_eq_true, List.all_eq_true, decide_eq_true_eq] at h1
    refine ⟨h1.1, fun hlt k hk => ?_, fun hge k hk => ?_, fun hgt => ?_⟩
    · have h2 := h1.2
      rw [if_pos hlt] at h2
      exact List.all_eq_true.1 h2 k (List.mem_range.2 hk)
    · have h2 := h1.2
      rw [if_neg (by omega)] at h2
      by_cases e : i = m
      · subst e
        rw [if_pos (by simp)] at h2
        exact bit_ok (List.all_eq_true.1 h2 k (List.mem_range.2 hk))
      · rw [if_neg (by simpa using e)] at h2
        simp only [Bool.and_eq_true, List.all_eq_true, List.mem_range] at h2
        exact bit_ok (h2.1 k (by omega))
    · have h2 := h1.2
      rw [if_neg (by omega), if_neg (by simp; omega)] at h2
      simp only [Bool.and_eq_true, List.all_eq_true, List.mem_range] at h2
      refine ⟨bit_ok (h2.1 m (by omega)), fun k hk hk2 => ?_⟩
      have h3 := h2.2 k hk2
      have e : Nat.ble k m = false := by
        cases hb : Nat.ble k m with
        | false => rfl
        | true => have := Nat.le_of_ble_eq_true hb; omega
      rw [e] at h3
      simpa using h3
  refine ⟨hm, ⟨fun i o ho => (key i o ho).1, fun i o k ok s _ hi _ hk ho hok hs hne hn => chkPair_ok ((key i o ho).2.1 hi k hk) hok hs hne hn, fun i o k hi ho _ hk => (key i o ho).2.2.1 hi k hk⟩,
    ⟨fun i o ho => (key i o ho).1, fun i o k ok s hi _ hk hk2 ho hok hs hne hn => chkPair_ok (((key i o ho).2.2.2 hi).2 k hk hk2) hok hs hne hn, fun i o k hi ho _ _ => ?_⟩, fun i o hi ho => ((key i o ho).2.2.2 hi).1⟩
  have := (List.getElem?_eq_some_iff.1 ho).1
  omega

/-- A statement whose order is open, with one effect in its middle: n operations behind it. -/
theorem KW.drawE {id : Nat} {l : List Oper} (m n : Nat) (hc : chkE l m = true) (hn : Nat.beq l.length (m + 1 + n) = true) (h : KDE C l Q σ n m l fr) : KW C Q (.region id l.toArray true) fr σ := by
  intro a w hS
  obtain ⟨hml, hC1, hC2, hmid⟩ := chkE_ok hc
  have hlen := Nat.eq_of_beq_eq_true hn
  obtain ⟨gs, vs, frs, e1, e2, e3, e4⟩ := KDE.run m l 0 fr (by simp) h
  have hR : RunB C l σ 0 m gs vs frs := ⟨fun k o _ hk ho => e3 k o (Nat.zero_le _) (by omega) ho⟩
  rw [Nat.zero_add] at e4
  refine wpIn_region_any C.T.mixed ?_
  have hf : ∀ i, (Array.replicate l.toArray.size false).getD i false = false := fun i => by
    rw [Array.getD_eq_getD_getElem?]
    rcases Nat.lt_or_ge i l.length with h | h
    · simp [h]
    · simp [h]
  refine any_headB hC1 (Nat.zero_le _) e2 hR (by rw [e1]; exact hS.fr) ?_ _ _ _ a _ rfl ?_ ⟨by simp, fun i o ho hl => ?_, fun i hi => by omega, fun i _ => hf i, hS.n, fun s k o _ hl => ?_, fun s _ => rfl, ?_, ?_, hS.hid⟩
  · -- the effect, alone ready
    intro L a w hLs hL hS
    have ho : l[m]? = some l[m] := List.getElem?_eq_getElem hml
    have hd : l.drop m = l[m] :: l.drop (m + 1) := List.drop_eq_getElem_cons hml
    rw [hd] at e4
    obtain ⟨R, d, g1, g2, g3, g4, g5⟩ := e4
    have hf1 : l.length - m = n + 1 := by omega
    rw [hf1]
    have hrdy : m ∈ Region.ready .any l.toArray L := ready_of (getD_ft (by omega) (by rw [hL]; simp)) ho (fun j hj => by rw [hL]; have := hC1.low m _ ho j hj; simpa using this)
    refine ⟨(fun he => by rw [he] at hrdy; cases hrdy), fun i hi => ?_⟩
    obtain ⟨h1, o, hoi, hdi⟩ := mem_ready' hi
    have hcl : ∀ i o, l[i]? = some o → L.getD i false = true → ∀ j ∈ depsOf o, L.getD j false = true := fun i o ho' hl j hj => by
      rw [hL] at hl ⊢
      have := hC1.low i o ho' j hj
      simp only [decide_eq_true_eq] at hl ⊢
      omega
    have him : i = m := by
      have hge : m ≤ i := by
        have := hL i
        rw [getD_tf h1] at this
        simpa using this.symm
      by_cases e : i = m
      · exact e
      · have := (hmid i o (by omega) hoi).listed' hcl hoi hdi
        rw [hL] at this
        simp at this
    subst him
    unfold wpOpIn
    simp only [List.getElem?_toArray, ho]
    rw [guardOf_ok hS.fr g1, if_pos rfl]
    refine (g4 a w hS.fr hS.own).wpIn ?_
    rintro v w' ⟨σ', hp, hs⟩
    rw [g2]
    have hS2 := (hS.put (g := true) (v := v) g3).step hs
    have hk := g5 v σ' hp
    obtain ⟨gs2, vs2, frs2, f1, f2, f3, f4⟩ := KD.run n (l.drop (i + 1)) (i + 1) _ (fun j => by simp) hk
    have hR2 : RunB C l σ' (i + 1) l.length gs2 vs2 frs2 := ⟨fun k o hk1 hk2 ho => f3 k o hk1 (by omega) ho⟩
    have hL' : ∀ k, (L.setIfInBounds i true).getD k false = decide (k < i + 1) := fun k => by
      rw [getD_set (by omega), hL]
      by_cases e : k = i
      · subst e; simp
      · simp only [e, if_false]; congr 1; apply propext; omega
    refine any_headB hC2 (by omega) (Nat.le_refl _) hR2 (by rw [f1]; exact hS2.fr) ?_ _ n _ _ _ ?_ (by omega) ⟨by simpa using hLs, fun k ok hk hl j hj => ?_, fun k hk => ?_, fun k hk => ?_, hS2.n, fun s k ok hk hl hok => ?_, fun s _ => rfl, hS2.own, hS2.defs, hS2.hid⟩
    · intro L a w hLs hL hS
      rw [Nat.sub_self]
      refine ⟨List.eq_nil_iff_forall_not_mem.2 fun i hi => ?_, ?_⟩
      · obtain ⟨h1, o, ho, _⟩ := mem_ready' hi
        have := hL i
        rw [getD_tf h1] at this
        have hlt := (List.getElem?_eq_some_iff.1 ho).1
        simp [hlt] at this
      · have e : (l.drop (i + 1)).drop n = [] := by rw [List.drop_drop]; exact List.drop_eq_nil_of_le (by omega)
        rw [e, show i + 1 + n = l.length by omega] at f4
        have := f4 a w hS
        simpa [wpListIn] using this
    · simp only [hL']
      have e : List.range l.length = List.range (i + 1) ++ (List.range n).map (fun x => i + 1 + x) := by rw [hlen, List.range_add]
      rw [e, List.filter_append, List.length_append]
      have e1 : (List.range (i + 1)).filter (fun k => !decide (k < i + 1)) = [] := by
        rw [List.filter_eq_nil_iff]; intro k hk; have := List.mem_range.1 hk; simp [this]
      have e2 : ((List.range n).map (fun x => i + 1 + x)).filter (fun k => !decide (k < i + 1)) = (List.range n).map (fun x => i + 1 + x) := by
        rw [List.filter_eq_self]; intro k hk
        obtain ⟨x, _, rfl⟩ := List.mem_map.1 hk
        simp
      rw [e1, e2]
      simp
    · rw [hL'] at hl ⊢
      have := hC1.low k ok hk j hj
      simp only [decide_eq_true_eq] at hl ⊢
      omega
    · rw [hL']; simpa using hk
    · rw [hL']; simp; omega
    · rw [hL'] at hl
      simp only [decide_eq_true_eq] at hl
      omega
  · have e : ((List.range m).filter fun i => !(Array.replicate l.toArray.size false).getD i false) = List.range m := by
      rw [List.filter_eq_self]; intro i _; rw [hf]; rfl
    rw [e]
    simp
    omega
  · rw [hf] at hl; cases hl
  · rw [hf] at hl; cases hl
  · exact ⟨hS.own.os, hS.own.tape, hS.own.output, hS.own.size, hS.own.old, ⟨hS.own.has.has, hS.own.has.nodup⟩, hS.own.new⟩
  · exact hS.defs
end
end Go.K
end
section
namespace Go.K
open Go Go.RowKit

def cutAQ {α : Type} (C : Cx) (I : α → Prop) (S : α → Fr × Heap) (Q : KQ) : KQ
  | .normal, f, s => ∃ x, I x ∧ Le C f s (S x).1 (S x).2
  | e, f, s => Q e f s
section
variable {C : Cx} {Q : KQ} {fr : Fr} {σ : Heap}
theorem KW.cutA {α : Type} {x y : Code} (I : α → Prop) (S : α → Fr × Heap) (h1 : ∀ s, I s → KW C Q y (S s).1 (S s).2) (h2 : KW C (cutAQ C I S Q) x fr σ) : KW C (thenQ C (KW C Q y) Q) x fr σ := fun a w hS =>
  wpIn_mono (h2 a w hS) fun e a' w' hq => by
    cases e with
    | normal => obtain ⟨f, s, hS', z, hz, hle⟩ := hq; exact ⟨f, s, hS', fun a w h => h1 z hz a w (hle a w h)⟩
    | panic => exact hq
    | outgrown => exact hq
    | exit => exact hq
    | goto => exact hq
    | ret => exact hq
theorem At.cutA_here {α : Type} {I : α → Prop} {S : α → Fr × Heap} (x : α) (hI : I x) (h : Le C fr σ (S x).1 (S x).2) : At (cutAQ C I S Q) .normal fr σ := ⟨x, hI, h⟩
theorem At.cutA_ret {α : Type} {I : α → Prop} {S : α → Fr × Heap} (h : At Q .ret fr σ) : At (cutAQ C I S Q) .ret fr σ := h
theorem At.cutA_exit {α : Type} {I : α → Prop} {S : α → Fr × Heap} {id : Nat} (h : At Q (.exit id) fr σ) : At (cutAQ C I S Q) (.exit id) fr σ := h
end

section
variable {C : Cx} {L : Look} {σ : Heap} {g : Bool} {o : Oper}
/-- A call of a value that reads what is tracked. -/
theorem qt_callW {x : Operand} {f : FuncId} {gx : Bool} {first cap : Array Value} {args : Array Operand} {ts : Array TypeId} {gs : List Bool} {vs av : List Value} {v : Value} (ho : o.op = .call ⟨.value x, args, ts⟩) (hx : opnd L x = some (gx, .func (.func f) first cap))
    (ha : opnds L args.toList = some (gs, vs)) (hi : g = true → (gx && gs.all id) = true) (hv : first.toList ++ vs ++ cap.toList = av) (hc : g = true → Tr C.P f av C.E.β σ (fun u s => u = v ∧ s = σ)) : Qt C L σ g o v := fun a w hL hO hg => by
  have hT := hc hg
  have h := hi hg
  rw [Bool.and_eq_true] at h
  refine .inr ⟨f, _, run_call hT.1 ho (opnd_ev hL hx h.1) (opnds_ok hL ha h.2), ?_⟩
  have e : (first ++ vs.toArray) ++ cap = av.toArray := by
    rw [← hv]; apply Array.ext'; simp
  rw [e]
  exact (hT.2 w (fun b o hb => hO.ro hb) hO.has).mono fun e w' ⟨u, s, h1, ⟨h2, h3⟩, h4⟩ => by
    subst h2 h3
    exact ⟨h1, h4.quiet hO.has⟩
end

section
variable {C : Cx} {L : Look} {σ : Heap} {g : Bool} {o : Oper}
theorem qt_quoT {t t' : TypeId} {x y : Operand} {gx gy : Bool} {a b : Int} (ho : o.op = .binOp .quo t x y t')
    (hx : opnd L x = some (gx, .int .i64 a)) (hy : opnd L y = some (gy, .int .i64 b)) (hi : g = true → (gx && gy) = true) (hn : g = true → -9223372036854775807 ≤ a ∧ a ≤ 9223372036854775807 ∧ b ≠ 0) : Qt C L σ g o (.int .i64 (a.tdiv b)) :=
  fun ac w hL hO hg => by
    have := qt_quo (C := C) (σ := σ) ho hx hy hi (fun hg => by have := hn hg; omega) ac w hL hO hg
    have h := hn hg
    have h2 := Int.natAbs_tdiv_le_natAbs a b
    rw [wrap_i64 (by omega)] at this
    exact this
end

/-! ### What hangs on what was left out -/
section
variable {C : Cx} {ops : List Oper} {Q : KQ} {σ : Heap} {o : Oper} {rest : List Oper} {fr : Fr} {d m : Nat} {g : Bool}
theorem KO.skipIn (hg : guardIn ops (look fr) o = some g) (hf : g = false) (hd : o.dst = some d) (hn : Nat.blt d C.N = true) (h : KO C ops Q rest ((d, false, undef) :: fr) σ) : KO C ops Q (o :: rest) fr σ := by
  subst hf; exact KO.valIn hg hd hn (fun ac w hL hO hg => by cases hg) h
theorem KD.skipIn (hg : guardIn ops (LR (namesOf ops o) (look fr)) o = some g) (hf : g = false) (hd : o.dst = some d) (hn : Nat.blt d C.N = true) (h : KD C ops Q σ m rest ((d, false, undef) :: fr)) : KD C ops Q σ (m + 1) (o :: rest) fr := by
  subst hf; exact KD.valIn hg hd hn (fun ac w hL hO hg => by cases hg) h
end

/-! ### 'append' behind a slice that is full -/
/-- 'append' of a slice that can be read to another one that has no room: new memory. -/
theorem run_append_full {P : Program} {T : TT P} {t ty e : Nat} {z : Value} {n by' : Nat} {zs : List Value} (ht : T.u t = some (.slice e)) (hz : T.i e = some (z, n, by')) (hzc : vcells z = some zs) (hzl : zs.length = n) (hn0 : 0 < n)
    {m k c cv : Nat} {xs news : List Value} {σ : Heap} {w : World} {a b : Addr} (hh : Has σ w) (hxl : xs.length = m * n) (hxs : ∀ j u, xs[j]? = some u → w.cell? (b.add j) = some u) (hl : news.length = k * n) (hnews : ∀ j u, news[j]? = some u → w.cell? (a.add j) = some u)
    (hroom : ¬ m + k ≤ cv) (hm : m + k ≤ maxLen) (hby : (m + k) * by' ≤ 140737488355328) :
    ∃ v' w' φ', (Builtin.append_ #[t, t] ty #[.slice (some b) m cv, .slice (some a) k c]).run P w = .ok v' w' ∧ Vec e n (m + k) (xs ++ news) v' φ' ∧ Stp σ (φ' ++ σ) w w' := by
  obtain ⟨i, hi1, hi2, hi3, hi4⟩ := TT.i_ok hz
  subst hi3 hi4
  have hzs : z.cells.size = i.size := by rw [vcells_ok hzc]; simpa using hzl
  obtain ⟨v', w', hr, ho, hg⟩ := run_append_arg_grows (P := P) w t ty e i z i.size i.bytes (TT.u_ok ht) hi1 hi2 rfl rfl hzs hn0 b m cv xs hxl hxs a k c news hl hnews (by omega) hm hby
  obtain ⟨o1, ⟨rfl, o2⟩ | ⟨g', cap', cur, rfl, o2, o3, o4, o5, o6, o7⟩⟩ := ho
  · omega
  · have hcur : cur = ((xs ++ news) ++ cur.toList.drop ((m + k) * i.size)).toArray := by
      apply Array.ext'
      rw [← o7]; simp
    refine ⟨_, w', [(g', cl ((xs ++ news) ++ cur.toList.drop ((m + k) * i.size)) e)], hr, ⟨o1, .inr ⟨g', cap', cur.toList.drop ((m + k) * i.size), rfl, rfl, o4, o5, ?_⟩⟩, ?_⟩
    · rw [← o6]; conv => rhs; rw [hcur]
      simp
    · have hst : Stp (σ ++ []) (σ ++ [(g', cl ((xs ++ news) ++ cur.toList.drop ((m + k) * i.size)) e)]) w w' := by
        refine Stp.tail (by simpa using hh) hg.os hg.tape hg.output hg.size (fun b hb' _ => hg.block b hb' (by simp)) ⟨fun p hp => ?_, by simp⟩ (fun b hb' => .inr ?_)
        · simp only [List.mem_singleton] at hp
          subst hp
          rw [o3]
          simp only [cl]
          rw [← hcur]
        · simp only [keys_cons, keys_nil, List.mem_singleton] at hb'
          omega
      rw [List.append_nil] at hst
      exact hst.sub (Sub.perm List.perm_append_comm hst.has)
section
variable {C : Cx} {ops : List Oper} {Q : KQ} {o : Oper} {rest : List Oper} {fr : Fr} {σ : Heap} {d : Nat}
theorem KO.appendX {s x : Operand} {t e : TypeId} {z : Value} {n by' m k c cv : Nat} {zs xs news : List Value} {pv p : Option Addr} (hg : guardOf ops (look fr) o = some true) (hd : o.dst = some d) (hn : Nat.blt d C.N = true) (ho : o.op = .call ⟨.builtin .append, #[s, x], #[t, t]⟩)
    (hs : opnd (look fr) s = some (true, .slice pv m cv)) (hx : opnd (look fr) x = some (true, .slice p k c)) (hu : C.T.u t = some (.slice e)) (hz : C.T.i e = some (z, n, by')) (hzc : vcells z = some zs) (hzl : zs.length = n) (hn0 : 0 < n)
    (hv : SL C.E.β σ n m xs pv) (hnews : SL C.E.β σ n k news p) (hm0 : 0 < m) (hk0 : 0 < k) (hroom : ¬ m + k ≤ cv) (hm : m + k ≤ maxLen) (hby : (m + k) * by' ≤ 140737488355328)
    (h : ∀ v' φ', Vec e n (m + k) (xs ++ news) v' φ' → KO C ops Q rest ((d, true, v') :: fr) (φ' ++ σ)) : KO C ops Q (o :: rest) fr σ := by
  obtain ⟨b, off, rfl, hb⟩ := hv.2 hm0
  obtain ⟨bx, ox, rfl, hbx⟩ := hnews.2 hk0
  refine KO.eff (Post := fun v' σ' => ∃ φ', Vec e n (m + k) (xs ++ news) v' φ' ∧ σ' = φ' ++ σ) hg hd hn (fun ac w hL hO => .inl ?_) ?_
  · obtain ⟨v', w', φ', r1, r2, r3⟩ := run_append_full (ty := o.type) (c := c) (b := ⟨b, off, none⟩) (a := ⟨bx, ox, none⟩) hu hz hzc hzl hn0 hO.has hv.1 (fun j u hj => by rw [Addr.add_lit]; exact (hb j u hj).ok hO) hnews.1 (fun j u hj => by rw [Addr.add_lit]; exact (hbx j u hj).ok hO) hroom hm hby
    refine ⟨v', w', ?_, φ' ++ σ, ⟨φ', r2, rfl⟩, r3⟩
    simp [execOp, ho, resolve, invoke, builtin, opnd_ev hL hs rfl, opnd_ev hL hx rfl]
    rw [r1]
    simp
  · rintro v' σ' ⟨φ', h2, rfl⟩
    exact h v' φ' h2
end
end Go.K
namespace Go.K
open Go Go.RowKit

/-- β and the blocks of φ. -/
def frz (β : Nat → Option Obj) : Heap → Nat → Option Obj
  | [], b => β b
  | (k, o) :: r, b => bif Nat.beq k b then some o else frz β r b
theorem frz_of (β : Nat → Option Obj) : ∀ {φ : Heap} {b : Nat} {o : Obj}, frz β φ b = some o → (b, o) ∈ φ ∨ (b ∉ keys φ ∧ β b = some o)
  | [], b, o, h => .inr ⟨by simp [keys], h⟩
  | (k, o') :: r, b, o, h => by
    simp only [frz] at h
    cases hk : Nat.beq k b with
    | true =>
      rw [hk] at h
      have := Nat.eq_of_beq_eq_true hk
      subst this
      simp only [cond_true, Option.some.injEq] at h
      subst h
      exact .inl (List.Mem.head _)
    | false =>
      rw [hk] at h
      have hne : b ≠ k := fun e => by subst e; rw [Nat.beq_refl] at hk; cases hk
      rcases frz_of β h with h1 | ⟨h1, h2⟩
      · exact .inl (List.Mem.tail _ h1)
      · refine .inr ⟨?_, h2⟩
        simp only [keys, List.map_cons, List.mem_cons, not_or] at h1 ⊢
        exact ⟨hne, h1⟩
theorem frz_mem (β : Nat → Option Obj) : ∀ {φ : Heap} {b : Nat} {o : Obj}, (keys φ).Nodup → (b, o) ∈ φ → frz β φ b = some o
  | (k, o') :: r, b, o, hn, h => by
    simp only [keys, List.map_cons, List.nodup_cons] at hn
    rcases List.mem_cons.1 h with h | h
    · cases h
      simp [frz, Nat.beq_refl]
    · have hne : k ≠ b := fun e => hn.1 (by subst e; exact List.mem_map.2 ⟨_, h, rfl⟩)
      have hk : Nat.beq k b = false := by
        cases hk : Nat.beq k b with
        | true => exact absurd (Nat.eq_of_beq_eq_true hk) hne
        | false => rfl
      simp only [frz, hk, cond_false]
      exact frz_mem β hn.2 h
theorem frz_not (β : Nat → Option Obj) : ∀ {φ : Heap} {b : Nat}, b ∉ keys φ → frz β φ b = β b
  | [], _, _ => rfl
  | (k, o') :: r, b, h => by
    simp only [keys, List.map_cons, List.mem_cons, not_or] at h
    have hk : Nat.beq k b = false := by
      cases hk : Nat.beq k b with
      | true => exact absurd (Nat.eq_of_beq_eq_true hk).symm h.1
      | false => rfl
    simp only [frz, hk, cond_false]
    exact frz_not β h.2
/-- What may be read, and is tracked, may be read as what is given. -/
theorem Cel.frz {β β' : Nat → Option Obj} {φ : Heap} {b off : Nat} {u : Value} (h1 : ∀ b o, β b = some o → β' b = some o) (h2 : ∀ p ∈ φ, β' p.1 = some p.2) (h : Cel β φ b off u) : Cel β' [] b off u := by
  rcases h with ⟨cs, e, h3, h4⟩ | ⟨c, e, fz, h3, h4⟩
  · exact .inr ⟨_, e, _, h2 _ h3, by simpa using h4⟩
  · exact .inr ⟨c, e, fz, h1 _ _ h3, h4⟩
theorem SL.frz {β β' : Nat → Option Obj} {φ : Heap} {n m : Nat} {xs : List Value} {p : Option Addr} (h1 : ∀ b o, β b = some o → β' b = some o) (h2 : ∀ p ∈ φ, β' p.1 = some p.2) (h : SL β φ n m xs p) : SL β' [] n m xs p :=
  ⟨h.1, fun hm => by obtain ⟨b, off, h3, h4⟩ := h.2 hm; exact ⟨b, off, h3, fun j u hj => (h4 j u hj).frz h1 h2⟩⟩

section
variable {C : Cx} {L : Look} {ops : List Oper} {Q : KQ} {o : Oper} {rest : List Oper} {fr : Fr} {σ : Heap} {d : Nat} {g : Bool}
theorem eo_callB {x : Operand} {f : FuncId} {first cap : List Value} {args : Array Operand} {ts : Array TypeId} {gs : List Bool} {vs : List Value} {R : Value → Heap → Prop} (σf φ : Heap) (hp : List.Perm σ (σf ++ φ))
    (ho : o.op = .call ⟨.value x, args, ts⟩) (hx : opnd L x = some (true, .func (.func f) first.toArray cap.toArray)) (ha : opnds L args.toList = some (gs, vs)) (hi : gs.all id = true)
    (hT : ∀ β', (∀ b o, C.E.β b = some o → β' b = some o) → (∀ p ∈ φ, β' p.1 = some p.2) → Tr C.P f (first ++ vs ++ cap) β' σf R) : EO C L σ o (fun v s => ∃ σ', R v σ' ∧ s = σ' ++ φ) := fun a w hL hO => .inr (.inr (by
  have hsub := Sub.perm hp hO.has
  have hh := hO.has.sub hsub
  have hnd := hh.nodup
  rw [keys_append] at hnd
  obtain ⟨hn1, hn2, hn3⟩ := List.nodup_append.1 hnd
  have hhf : Has σf w := ⟨fun p hp => hh.has p (List.mem_append_left _ hp), hn1⟩
  have hb0 : ∀ b o, C.E.β b = some o → b ∉ keys φ := fun b o hb hm => (hO.ro hb).2 (hsub.keys b (by rw [keys_append]; exact List.mem_append_right _ hm))
  have hT' := hT (Go.K.frz C.E.β φ) (fun b o hb => by rw [frz_not _ (hb0 b o hb)]; exact hb) (fun p hp => frz_mem _ hn2 hp)
  refine ⟨f, _, run_call hT'.1 ho (opnd_ev hL hx rfl) (opnds_ok hL ha hi), ?_⟩
  have e : (first.toArray ++ vs.toArray) ++ cap.toArray = (first ++ vs ++ cap).toArray := by simp
  rw [e]
  refine (hT'.2 w (fun b o hb => ?_) hhf).mono ?_
  · rcases frz_of _ hb with h1 | ⟨_, h1⟩
    · exact ⟨hh.has _ (List.mem_append_right _ h1), fun hm => hn3 b hm b (List.mem_map.2 ⟨_, h1, rfl⟩) rfl⟩
    · exact ⟨(hO.ro h1).1, fun hm => (hO.ro h1).2 (hsub.keys b (by rw [keys_append]; exact List.mem_append_left _ hm))⟩
  rintro e w' ⟨v, σ', h1, h2, h3⟩
  have h4 := h3.frame hh
  exact ⟨v, h1, σ' ++ φ, ⟨σ', h2, rfl⟩, ⟨h4.os, h4.tape, h4.output, h4.size, fun b hb hnb => h4.old b hb (fun hm => hnb (hsub.keys b hm)), h4.has, fun b hb => (h4.new b hb).imp (hsub.keys b) id⟩⟩))
/-- The callee is handed σf, and may read φ. -/
theorem KO.callB {x : Operand} {f : FuncId} {first cap : List Value} {args : Array Operand} {ts : Array TypeId} {gs : List Bool} {vs : List Value} {R : Value → Heap → Prop} (σf φ : Heap) (hp : List.Perm σ (σf ++ φ))
    (hg : guardOf ops (look fr) o = some true) (hd : o.dst = some d) (hn : Nat.blt d C.N = true) (ho : o.op = .call ⟨.value x, args, ts⟩) (hx : opnd (look fr) x = some (true, .func (.func f) first.toArray cap.toArray)) (ha : opnds (look fr) args.toList = some (gs, vs)) (hi : gs.all id = true)
    (hT : ∀ β', (∀ b o, C.E.β b = some o → β' b = some o) → (∀ p ∈ φ, β' p.1 = some p.2) → Tr C.P f (first ++ vs ++ cap) β' σf R) (h : ∀ v σ', R v σ' → KO C ops Q rest ((d, true, v) :: fr) (σ' ++ φ)) : KO C ops Q (o :: rest) fr σ :=
  KO.ofEO hg hd hn (eo_callB σf φ hp ho hx ha hi hT) (fun v s ⟨σ', h1, h2⟩ => by subst h2; exact h v σ' h1)
/-- A row of no elements. -/
theorem KO.buildSlice0 {t e n m : Nat} {z : Value} (hg : guardOf ops (look fr) o = some true) (hd : o.dst = some d) (hn : Nat.blt d C.N = true) (ho : o.op = .buildSlice t 0 #[])
    (hu : C.T.u t = some (.slice e)) (hz : C.T.i e = some (z, n, m)) (h : ∀ b, b ∉ keys σ → KO C ops Q rest ((d, true, .slice (some ⟨b, 0, none⟩) 0 0) :: fr) ((b, cl [] e) :: σ)) : KO C ops Q (o :: rest) fr σ := by
  refine KO.eff (Post := fun v σ' => ∃ b, b ∉ keys σ ∧ v = .slice (some ⟨b, 0, none⟩) 0 0 ∧ σ' = (b, cl [] e) :: σ) hg hd hn (fun a w hL hO => .inl ?_) ?_
  · refine ⟨.slice (some ⟨w.heap.size, 0, none⟩) 0 0, w.alloc (cl [] e), ?_, _, ⟨w.heap.size, hO.has.fresh, rfl, rfl⟩, Stp.alloc hO.has _⟩
    simp [execOp, ho, Instr.buildSlice, run_underlying (TT.u_ok hu), run_sizeOf hz, newRow, cl, Instr.fill]
    have e0 : ∀ f : Nat → Value, Array.map f (Array.range 0) = #[] := fun f => by simp [Array.range]
    rw [e0]
  · rintro v σ' ⟨b, hb, rfl, rfl⟩; exact h b hb
end
end Go.K
namespace Go
section
variable {P : Program} {b : Frame} {a : Act} {k : List Item} {cs : List Frame} {w : World}
theorem stepR_scope {c : Code} : step P (lone (b.atR a (.code (.scope c) :: k)) cs w) = .next (lone (b.atR a (.code c :: .inScope c :: k)) cs w) :=
  step_lone_go (by simp [stepG, stepG.exec, Frame.atR])
theorem stepR_inScope {c : Code} : step P (lone (b.atR a (.inScope c :: k)) cs w) = .next (lone (b.atR a k) cs w) :=
  step_lone_go (by simp [stepG, stepG.exec, Frame.atR])
theorem wpIn_scope {F : Fence} {n : Nat} {Q : Exit → Act → World → Prop} {c : Code} (h : c.wpIn F n P (Exit.noGoto Q) a w) : (Code.scope c).wpIn F n P Q a w := by
  intro b k cs hro hb hr
  have h0 : (lone (b.atR a (.code (.scope c) :: k)) cs w).fenced P F := fenced_calm hb hr rfl
  obtain ⟨e, a₁, w₁, hq, harr⟩ := h b (.inScope c :: k) cs hro hb hr
  cases e with
  | normal => exact ⟨.normal, a₁, w₁, hq, .head h0 stepR_scope (StepsIn.trans harr (.one (fenced_calm hb hr rfl) stepR_inScope))⟩
  | exit id =>
    have hx : exitTo id (.inScope c :: k) = exitTo id k := by simp [exitTo]
    exact ⟨_, a₁, w₁, hq, fun k' hk => .head h0 stepR_scope (harr.1 k' (by rw [hx]; exact hk)),
      fun hr' hk => let ⟨k₁, h1, h2⟩ := harr.2 hr' (by rw [hx]; exact hk); ⟨k₁, h1, .head h0 stepR_scope h2⟩⟩
  | goto l => exact hq.elim
  | ret => exact ⟨_, a₁, w₁, hq, .of_steps (.one h0 stepR_scope) harr⟩
  | panic ch => exact ⟨_, a₁, w₁, hq, .of_steps (.one h0 stepR_scope) harr⟩
  | outgrown => exact ⟨_, a₁, w₁, hq, .of_steps (.one h0 stepR_scope) harr⟩
end
end Go
namespace Go.K
open Go Go.RowKit
def scopeQ (Q : KQ) : KQ
  | .goto _, _, _ => False
  | e, fr, σ => Q e fr σ
section
variable {C : Cx} {Q : KQ} {fr : Fr} {σ : Heap}
theorem KW.scope {c : Code} (h : KW C (scopeQ Q) c fr σ) : KW C Q (.scope c) fr σ := fun a w hS =>
  wpIn_scope (wpIn_mono (h a w hS) fun e a' w' hq => by
    cases e with
    | goto l => obtain ⟨fr', σ', h1, h2⟩ := hq; exact h2.elim
    | normal => exact hq
    | exit id => exact hq
    | ret => exact hq
    | panic ch => exact hq
    | outgrown => exact hq)
theorem KW.label {l : Nat} (h : At Q .normal fr σ) : KW C Q (.label l) fr σ := fun _ _ hS => wpIn_label ⟨fr, σ, hS, h⟩
theorem At.scope_normal (h : At Q .normal fr σ) : At (scopeQ Q) .normal fr σ := h
theorem At.scope_ret (h : At Q .ret fr σ) : At (scopeQ Q) .ret fr σ := h
theorem At.scope_exit {id : Nat} (h : At Q (.exit id) fr σ) : At (scopeQ Q) (.exit id) fr σ := h
end
/-- A call that is handed nothing, and leaves nothing. -/
theorem Tr.quiet {P : Program} {f : FuncId} {args : List Value} {β : Nat → Option Obj} {σ : Heap} {v : Value} (h : Tr P f args β [] (fun u s => u = v ∧ s = [])) : Tr P f args β σ (fun u s => u = v ∧ s = σ) :=
  ⟨h.1, fun w hw hh => (h.2 w (fun b o hb => ⟨(hw b o hb).1, by simp⟩) (Has.nil w)).mono (fun e w' ⟨v', σ', h1, h2, h3⟩ => ⟨v', σ, h1, ⟨h2.1, rfl⟩, by
    obtain ⟨_, rfl⟩ := h2
    exact h3.frame (σ := []) hh⟩)⟩
end Go.K
namespace Go.K
open Go Go.RowKit

theorem run_append_zeros {P : Program} {T : TT P} {t tn ty e : Nat} {z : Value} {n by' : Nat} {zs : List Value} {kq kn : IntKind} (ht : T.u t = some (.slice e)) (htn : T.u tn = some (.int kn)) (hz : T.i e = some (z, n, by')) (hzc : vcells z = some zs) (hzl : zs.length = n) (hn0 : 0 < n)
    {k : Nat} {σ : Heap} {w : World} (hk : 0 < k) (hm : k ≤ maxLen) (hby : k * by' ≤ 140737488355328) (hh : Has σ w) :
    ∃ cap sp w', (Builtin.append_ #[t, tn] ty #[.slice none 0 0, .int kq k]).run P w = .ok (.slice (some ⟨w.heap.size, 0, none⟩) k cap) w' ∧ sp.length = cap * n ∧ k ≤ cap ∧ cap ≤ maxLen ∧ Stp σ ((w.heap.size, cl sp e) :: σ) w w' := by
  obtain ⟨i, hi1, hi2, hi3, hi4⟩ := TT.i_ok hz
  subst hi3 hi4
  have hzs : z.cells.size = i.size := by rw [vcells_ok hzc]; simpa using hzl
  have hm63 : (k : Int) ≤ 9223372036854775807 := by have : maxLen = 9223372036854775807 := rfl; omega
  have hr := Lib.run_append_nil_zeros (P := P) w t tn ty e i z kq kn (TT.u_ok ht) (TT.u_ok htn) hi1 hi2 k hk hn0 hm63 (by omega)
  have h2 := grownCap_ge w k 0 e
  refine ⟨grownCap w k 0 e, (Builtin.zeroCells z.cells k ++ Builtin.zeroCells z.cells (grownCap w k 0 e - k)).toList, _, hr, ?_, h2, grownCap_le_maxLen w k 0 e (by omega), ?_⟩
  · rw [Array.length_toList, Array.size_append, size_zeroCells, size_zeroCells, hzs, ← Nat.add_mul]
    congr 1; omega
  · have hsz : w.drew.heap.size = w.heap.size := rfl
    have hst : Stp (σ ++ []) (σ ++ [(w.heap.size, cl (Builtin.zeroCells z.cells k ++ Builtin.zeroCells z.cells (grownCap w k 0 e - k)).toList e)]) w (w.drew.alloc (.cells (Builtin.zeroCells z.cells k ++ Builtin.zeroCells z.cells (grownCap w k 0 e - k)) e)) := by
      refine Stp.tail (by simpa using hh) rfl rfl rfl (by rw [World.size_alloc, hsz]; omega) (fun b hb _ => Below.heap_alloc w.drew _ b hb) ⟨fun p hp => ?_, by simp⟩ (fun b hb => .inr ?_)
      · simp only [List.mem_singleton] at hp
        subst hp
        have := World.alloc_heap_new w.drew (Obj.cells (Builtin.zeroCells z.cells k ++ Builtin.zeroCells z.cells (grownCap w k 0 e - k)) e)
        rw [hsz] at this
        rw [this]
        simp [cl]
      · simp at hb; omega
    rw [List.append_nil] at hst
    exact hst.sub (Sub.perm List.perm_append_comm hst.has)
section
variable {C : Cx} {ops : List Oper} {Q : KQ} {o : Oper} {rest : List Oper} {fr : Fr} {σ : Heap} {d : Nat}
theorem KO.appendZ {s x : Operand} {t tn e : TypeId} {z : Value} {n by' : Nat} {a : Int} {zs : List Value} {kq kn : IntKind} (hg : guardOf ops (look fr) o = some true) (hd : o.dst = some d) (hn : Nat.blt d C.N = true) (ho : o.op = .call ⟨.builtin .append, #[s, x], #[t, tn]⟩)
    (hs : opnd (look fr) s = some (true, .slice none 0 0)) (hx : opnd (look fr) x = some (true, .int kq a)) (hu : C.T.u t = some (.slice e)) (hun : C.T.u tn = some (.int kn)) (hz : C.T.i e = some (z, n, by')) (hzc : vcells z = some zs) (hzl : zs.length = n) (hn0 : 0 < n)
    (h0 : 0 < a) (hm : a.toNat ≤ maxLen) (hby : a.toNat * by' ≤ 140737488355328)
    (h : ∀ b cap sp, b ∉ keys σ → sp.length = cap * n → a.toNat ≤ cap → cap ≤ maxLen → KO C ops Q rest ((d, true, .slice (some ⟨b, 0, none⟩) a.toNat cap) :: fr) ((b, cl sp e) :: σ)) : KO C ops Q (o :: rest) fr σ := by
  obtain ⟨k, rfl⟩ := Int.eq_ofNat_of_zero_le (Int.le_of_lt h0)
  refine KO.eff (Post := fun v' σ' => ∃ b cap sp, b ∉ keys σ ∧ sp.length = cap * n ∧ k ≤ cap ∧ cap ≤ maxLen ∧ v' = .slice (some ⟨b, 0, none⟩) k cap ∧ σ' = (b, cl sp e) :: σ) hg hd hn (fun ac w hL hO => .inl ?_) ?_
  · obtain ⟨cap, sp, w', r1, r2, r3, r4, r5⟩ := run_append_zeros (ty := o.type) (kq := kq) hu hun hz hzc hzl hn0 (k := k) (by omega) (by simpa using hm) (by simpa using hby) hO.has
    refine ⟨_, w', ?_, _, ⟨w.heap.size, cap, sp, hO.has.fresh, r2, r3, r4, rfl, rfl⟩, r5⟩
    simp [execOp, ho, resolve, invoke, builtin, opnd_ev hL hs rfl, opnd_ev hL hx rfl]
    rw [r1]
    simp
  · rintro v' σ' ⟨b, cap, sp, h1, h2, h3, h4, rfl, rfl⟩
    exact h b cap sp h1 h2 (by simpa using h3) h4
theorem qt_cap {L : Look} {g : Bool} {x : Operand} {t : TypeId} {gx : Bool} {p : Option Addr} {n c : Nat} {e : TypeId} (ho : o.op = .call ⟨.builtin .cap, #[x], #[t]⟩) (hx : opnd L x = some (gx, .slice p n c)) (hi : g = true → gx = true) (hu : C.T.u t = some (.slice e)) : Qt C L σ g o (.int .i64 (c : Int)) :=
  qt_val fun ac w hL hO hg => by
    simp [execOp, ho, resolve, invoke, builtin, opnd_ev hL hx (hi hg), Builtin.cap_, run_underlying (TT.u_ok hu), goInt]
theorem qt_no {L : Look} {g : Bool} {v : Value} (h : g = false) : Qt C L σ g o v := fun _ _ _ _ hg => by rw [h] at hg; cases hg
end
end Go.K
end
