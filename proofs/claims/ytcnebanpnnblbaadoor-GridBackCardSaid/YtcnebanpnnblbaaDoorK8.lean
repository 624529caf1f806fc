/- The program logic, eighth part: ranges over functions. -/
import Derived.Test.YtcnebanpnnblbaaDoorK7
namespace Go.K
open Go Go.RowKit

/-- What a call of yield does to the world: one round of the loop l. -/
def Yl (P : Program) (l : Nat) (args : List Value) (w : World) (R : Value → World → Prop) : Prop :=
  ∃ fn tmps assign body, (Instr.yield l args.toArray).run P w = .ok (.round l fn tmps assign body) w ∧ ∀ r, RoundIn (fnc r) 0 P l fn tmps assign body w fun e w' => ∃ v, e = .returned v ∧ R v w'

structure YTr (P : Program) (l : Nat) (args : List Value) (β : Nat → Option Obj) (σ : Heap) (R : Value → Heap → Prop) : Prop where
  run : ∀ w, Ro β σ w → Has σ w → Yl P l args w fun v w' => ∃ σ', R v σ' ∧ Stp σ σ' w w'

section
variable {C : Cx} {ops : List Oper} {Q : KQ} {o : Oper} {rest : List Oper} {fr : Fr} {σ : Heap} {d : Nat}

theorem Yl.wpIn {P : Program} {r : Option Nat} {o : Oper} {a : Act} {w : World} {l : Nat} {x : Operand} {args : Array Operand} {ts : Array TypeId} {vs : List Value} {R : Value → World → Prop} {K : Act → World → Prop} {Q : Exit → Act → World → Prop}
    (ho : o.op = .call ⟨.value x, args, ts⟩) (hx : a.eval x = .func (.yield l) #[] #[]) (ha : args.toList.map a.eval = vs) (h : Yl P l vs w R) (hk : ∀ v w', R v w' → K (a.put o.dst v) w') : o.wpIn (fnc r) 0 P a w K Q := by
  obtain ⟨fn, tmps, assign, body, h1, h2⟩ := h
  have e1 : args.map a.eval = vs.toArray := by apply Array.ext'; rw [← ha]; simp
  have hr : (execOp a.eval o).run P w = .ok (.round l fn tmps assign body) w := by
    simp only [execOp, ho, resolve, e1, hx, Deferred.ofValue, Sem.run_bind, Sem.run_pure, Result.andThen_ok, invoke]
    simpa using h1
  refine ⟨fun _ _ => trivial, ?_⟩
  rw [Oper.semAt_plain (fnc r) _ _ (not_defer hr (by simp)), hr]
  refine ⟨(fun h => by cases h), (h2 r).mono ?_⟩
  rintro e w' ⟨v, rfl, h3⟩
  exact hk v w' h3

/-- The generator's side. -/
theorem KO.yield {x : Operand} {l : Nat} {args : Array Operand} {ts : Array TypeId} {gs : List Bool} {vs : List Value} {R : Value → Heap → Prop} (σJ φ : Heap) (hg : guardOf ops (look fr) o = some true) (hd : o.dst = some d) (hn : Nat.blt d C.N = true) (ho : o.op = .call ⟨.value x, args, ts⟩)
    (hx : opnd (look fr) x = some (true, .func (.yield l) #[] #[])) (ha : opnds (look fr) args.toList = some (gs, vs)) (hi : gs.all id = true) (hσ : σ = σJ ++ φ) (hY : YTr C.P l vs C.E.β σJ R)
    (h : ∀ v σ', R v σ' → KO C ops Q rest ((d, true, v) :: fr) (σ' ++ φ)) : KO C ops Q (o :: rest) fr σ := by
  subst hσ
  intro a w hS
  unfold wpListIn
  rw [guardOf_ok hS.fr hg, if_pos rfl]
  have hO := hS.own
  have hJ : Has σJ w := ⟨fun p hp => hO.has.has p (List.mem_append_left _ hp), by have := hO.has.nodup; rw [keys_append] at this; exact (List.nodup_append.1 this).1⟩
  have hro : Ro C.E.β σJ w := fun b ob hb => ⟨(hO.ro hb).1, fun hm => (hO.ro hb).2 (by rw [keys_append]; exact List.mem_append_left _ hm)⟩
  refine Yl.wpIn (P := C.P) (R := fun v w' => ∃ σ', R v σ' ∧ Stp σJ σ' w w') ho (opnd_ev hS.fr hx rfl) (opnds_ok hS.fr ha hi) (hY.run w hro hJ) ?_
  rintro v w' ⟨σ', h1, h2⟩
  rw [hd]
  exact h v σ' h1 _ _ ((hS.put (g := true) (v := v) hn).step (h2.frame hO.has))

/-! ### The caller's side -/
/-- A function that tells items, one by one, until it is told to stop: its own memory is σc. -/
structure Iter (P : Program) (f : FuncId) (first cap : List Value) (β : Nat → Option Obj) (σc : Heap) (items : List (List Value)) : Prop where
  ok : FnOk P f
  run : ∀ (l : Nat) (β' : Nat → Option Obj) (J : Nat → Heap → Prop) (Jx : Heap → Prop), (∀ b o, β b = some o → β' b = some o) →
    (∀ j x σ, items[j]? = some x → J j σ → YTr P l x β' σ (fun v σ' => (v = .bool true ∧ J (j + 1) σ') ∨ (v = .bool false ∧ Jx σ'))) →
    ∀ σ, J 0 σ → Tr P f (first ++ [.func (.yield l) #[] #[]] ++ cap) β' (σ ++ σc) (fun v σ' => v = .tuple #[] ∧ ∃ σ'', σ' = σ'' ++ σc ∧ (J items.length σ'' ∨ Jx σ''))

theorem Ro.mono {β β' : Nat → Option Obj} {w : World} (hb : ∀ b o, β b = some o → β' b = some o) (h : Ro β' σ w) : Ro β σ w := fun b o hbo => h b o (hb b o hbo)
theorem Tr.up {P : Program} {f : FuncId} {args : List Value} {β β' : Nat → Option Obj} {R : Value → Heap → Prop} (hb : ∀ b o, β b = some o → β' b = some o) (h : Tr P f args β σ R) : Tr P f args β' σ R :=
  ⟨h.1, fun w hw hh => h.2 w (Ro.mono hb hw) hh⟩

def jmp : Exit → Option Code
  | .ret => some .ret
  | .exit id => some (.exit id)
  | .goto t => some (.goto t)
  | _ => none

/-- What a round leaves behind. -/
def roundQ (K : Nat → Heap → Prop) (Kx : Exit → Heap → Prop) (j : Nat) : KQ
  | .normal, _, σ => ∃ τ, List.Sublist τ σ ∧ K (j + 1) τ
  | e, _, σ => (jmp e).isSome = true ∧ ∃ τ, List.Sublist τ σ ∧ Kx e τ
theorem At.round_normal {K : Nat → Heap → Prop} {Kx : Exit → Heap → Prop} {j : Nat} (τ : Heap) (hs : List.Sublist τ σ) (h : K (j + 1) τ) : At (roundQ K Kx j) .normal fr σ := ⟨τ, hs, h⟩
theorem At.round_ret {K : Nat → Heap → Prop} {Kx : Exit → Heap → Prop} {j : Nat} (τ : Heap) (hs : List.Sublist τ σ) (h : Kx .ret τ) : At (roundQ K Kx j) .ret fr σ := ⟨rfl, τ, hs, h⟩
theorem At.round_exit {K : Nat → Heap → Prop} {Kx : Exit → Heap → Prop} {j id : Nat} (τ : Heap) (hs : List.Sublist τ σ) (h : Kx (.exit id) τ) : At (roundQ K Kx j) (.exit id) fr σ := ⟨rfl, τ, hs, h⟩
theorem Sub.of_sublist {σ' : Heap} {w : World} (h : List.Sublist σ' σ) (hh : Has σ w) : Sub σ' σ := ⟨fun _ hp => h.subset hp, by
  have := hh.nodup
  exact List.Nodup.sublist (show List.Sublist (List.map (fun p : Nat × Obj => p.1) σ') (List.map (fun p : Nat × Obj => p.1) σ) from h.map _) this⟩
theorem KW.sublist {σ' : Heap} {c : Code} (hs : List.Sublist σ' σ) (h : KW C Q c fr σ') : KW C Q c fr σ := fun a w hS => h a w (hS.weak hS.fr (Sub.of_sublist hs hS.own.has))
theorem KO.sublist {σ' : Heap} {ops l : List Oper} (hs : List.Sublist σ' σ) (h : KO C ops Q l fr σ') : KO C ops Q l fr σ := fun a w hS => h a w (hS.weak hS.fr (Sub.of_sublist hs hS.own.has))
/-- The assignments of a round's head, and the round behind it. -/
def assignQ (P : Program) (T : TT P) (l N : Nat) (β : Nat → Option Obj) (body : Code) (Q : KQ) : KQ := fun e fr2 σ2 =>
  e = .normal ∧ ∀ E2 : Env, (∀ b o, β b = some o → E2.β b = some o) → (∃ r, E2.β l = some (.loop r)) → KW ⟨P, T, some l, N, E2, []⟩ Q body fr2 σ2
theorem At.assigned {P : Program} {T : TT P} {l N : Nat} {β : Nat → Option Obj} {body : Code} (h : ∀ E2 : Env, (∀ b o, β b = some o → E2.β b = some o) → (∃ r, E2.β l = some (.loop r)) → KW ⟨P, T, some l, N, E2, []⟩ Q body fr σ) : At (assignQ P T l N β body Q) .normal fr σ := ⟨rfl, h⟩

def rec0 (fn : FuncId) (tmps : Array Value) (ps : Array Tmp) (assign body : Code) (df : Nat) (st : LoopState) (pend : Option Code) : Obj :=
  .loop { state := st, pending := pend, fn := fn, tmps := tmps, params := ps, assign := assign, body := body, defers := df }

def bindT (ps : Array Tmp) (x : List Value) (tmps : Array Value) : Array Value := (ps.zip x.toArray).foldl (fun tmps (t, a) => tmps.setIfInBounds t a) tmps

theorem putObj_get {w : World} {l b : Nat} {o : Obj} (hl : l < w.heap.size) : (w.putObj l o).heap[b]? = if b = l then some o else w.heap[b]? := by
  by_cases e : b = l
  · subst e; rw [if_pos rfl, World.putObj_heap_same hl]
  · rw [if_neg e, World.putObj_heap_other e]

/-- One round, out of the walks of its assignments and its body. -/
theorem ytr_of_round {P : Program} {T : TT P} {N : Nat} {β : Nat → Option Obj} {l : Nat} {fn : FuncId} {tmps : Array Value} {ps : Array Tmp} {assign body : Code} {df : Nat} {x : List Value} {fr1 : Fr} {σ : Heap} {K : Nat → Heap → Prop} {Kx : Exit → Heap → Prop} {j : Nat}
    (hsz : (bindT ps x tmps).size = N) (hlen : x.length = ps.size) (hfr : LOk (look fr1) ⟨bindT ps x tmps, []⟩)
    (hround : ∀ E1 : Env, (∀ b o, β b = some o → E1.β b = some o) → KW ⟨P, T, some l, N, E1, []⟩ (assignQ P T l N β body (roundQ K Kx j)) assign fr1 σ) :
    YTr P l x β ((l, rec0 fn tmps ps assign body df .ready none) :: σ) (fun v τ => (v = .bool true ∧ ∃ σ', K (j + 1) σ' ∧ τ = (l, rec0 fn tmps ps assign body df .ready none) :: σ') ∨
      (v = .bool false ∧ ∃ e c σ', jmp e = some c ∧ Kx e σ' ∧ τ = (l, rec0 fn tmps ps assign body df .done (some c)) :: σ')) := by
  refine ⟨fun w hro hh => ?_⟩
  have hl : w.heap[l]? = some (rec0 fn tmps ps assign body df .ready none) := hh.has (l, rec0 fn tmps ps assign body df .ready none) List.mem_cons_self
  have hlt : l < w.heap.size := lt_of_get hl
  have hnd := hh.nodup
  rw [keys_cons, List.nodup_cons] at hnd
  obtain ⟨hln0, hnd2⟩ := hnd
  have hln : l ∉ keys σ := hln0
  have hσ : Has σ w := ⟨fun p hp => hh.has p (by simp [hp]), hnd2⟩
  refine ⟨fn, bindT ps x tmps, assign, body, run_yield hl (by simpa using hlen), fun r => ?_⟩
  let β1 : Nat → Option Obj := fun b => if b = l then some (rec0 fn tmps ps assign body df .ready none) else β b
  have hβl : ∀ b o, β b = some o → b ≠ l := fun b o hb e => (hro b o hb).2 (by rw [e]; simp)
  have hE1 : ∀ b o, β1 b = some o → w.heap[b]? = some o ∧ ¬ (b ∈ keys σ) := fun b o hb => by
    by_cases e : b = l
    · subst e; simp only [β1, if_pos rfl, Option.some.injEq] at hb; subst hb; exact ⟨hl, hln⟩
    · simp only [β1, if_neg e] at hb; exact ⟨(hro b o hb).1, fun hm => (hro b o hb).2 (by simp [hm])⟩
  let E1 : Env := ⟨w, (· ∈ keys σ), β1, hE1⟩
  have hO1 : Own E1 σ w := ⟨rfl, rfl, rfl, Nat.le_refl _, fun _ _ _ => rfl, hσ, fun _ hb => .inl hb⟩
  have hup1 : ∀ b o, β b = some o → E1.β b = some o := fun b o hb => by simp only [E1, β1, if_neg (hβl b o hb)]; exact hb
  let β2 : Nat → Option Obj := fun b => if b = l then some (rec0 fn tmps ps assign body df .busy none) else β b
  have hE2 : ∀ b o, β2 b = some o → (w.putObj l (rec0 fn tmps ps assign body df .busy none)).heap[b]? = some o ∧ ¬ (b ∈ keys σ) := fun b o hb => by
    by_cases e : b = l
    · subst e; simp only [β2, if_pos rfl, Option.some.injEq] at hb; subst hb; exact ⟨World.putObj_heap_same hlt, hln⟩
    · simp only [β2, if_neg e] at hb; exact ⟨by rw [World.putObj_heap_other e]; exact (hro b o hb).1, fun hm => (hro b o hb).2 (by simp [hm])⟩
  let E2 : Env := ⟨w.putObj l (rec0 fn tmps ps assign body df .busy none), (· ∈ keys σ), β2, hE2⟩
  have hup2 : ∀ b o, β b = some o → E2.β b = some o := fun b o hb => by simp only [E2, β2, if_neg (hβl b o hb)]; exact hb
  refine roundIn_of_wpIn trivial (wpIn_mono (hround E1 hup1 _ w ⟨hsz, hfr, hO1, ⟨[], rfl, by simp, by simp⟩, (fun _ hp => by cases hp)⟩) ?_)
  intro e a1 w1 hq
  cases e with
  | normal =>
    obtain ⟨fr2, σ2, hS, _, hbody⟩ := hq
    have hl1 : w1.heap[l]? = some (rec0 fn tmps ps assign body df .ready none) := (hS.own.ro (b := l) (by simp [E1, β1])).1
    have hln2 : l ∉ keys σ2 := (hS.own.ro (b := l) (o := rec0 fn tmps ps assign body df .ready none) (by simp [E1, β1])).2
    have hlt1 := lt_of_get hl1
    refine ⟨_, run_beginRound hl1 rfl, ?_⟩
    have hget1 : ∀ b, (w1.putObj l (rec0 fn tmps ps assign body df .busy none)).heap[b]? = if b = l then some (rec0 fn tmps ps assign body df .busy none) else w1.heap[b]? := fun b => putObj_get hlt1
    have hget0 : ∀ b, (w.putObj l (rec0 fn tmps ps assign body df .busy none)).heap[b]? = if b = l then some (rec0 fn tmps ps assign body df .busy none) else w.heap[b]? := fun b => putObj_get hlt
    have hS2 : St ⟨P, T, some l, N, E2, []⟩ fr2 σ2 a1 (w1.putObj l (rec0 fn tmps ps assign body df .busy none)) := by
      refine ⟨hS.n, hS.fr, ⟨hS.own.os, hS.own.tape, hS.own.output, by rw [World.putObj_size, World.putObj_size]; exact hS.own.size, fun b hb hk => ?_, ⟨fun p hp => ?_, hS.own.has.nodup⟩, fun b hb => ?_⟩, ?_, (fun _ hp => by cases hp)⟩
      · rw [World.putObj_size] at hb
        rw [hget1, hget0]
        split
        · rfl
        · exact hS.own.old b hb hk
      · have hne : p.1 ≠ l := fun e => hln2 (by rw [← e]; exact mem_keys hp)
        rw [hget1, if_neg hne]; exact hS.own.has.has p hp
      · show _ ∨ (w.putObj l _).heap.size ≤ b
        rw [World.putObj_size]; exact hS.own.new b hb
      · obtain ⟨dl, h1, h2, h3⟩ := hS.defs
        refine ⟨dl, h1, h2, fun r hr => ?_⟩
        obtain ⟨k1, k2, k3⟩ := h3 r hr
        have hne : r ≠ l := fun e => by subst e; have : w.heap.size ≤ r := k1; omega
        refine ⟨by show (w.putObj l _).heap.size ≤ r; rw [World.putObj_size]; exact k1, k2, ?_⟩
        rw [hget1, if_neg hne]; exact k3
    refine wpIn_mono (hbody E2 hup2 ⟨_, by simp only [E2, β2, if_pos rfl]; rfl⟩ _ _ hS2) ?_
    intro e2 a3 w3 hq3
    have fin : ∀ fr3 σ3 st pend, St ⟨P, T, some l, N, E2, []⟩ fr3 σ3 a3 w3 → w3.heap[l]? = some (rec0 fn tmps ps assign body df .busy none) ∧
        Stp ((l, rec0 fn tmps ps assign body df .ready none) :: σ) ((l, rec0 fn tmps ps assign body df st pend) :: σ3) w (w3.putObj l (rec0 fn tmps ps assign body df st pend)) := by
      intro fr3 σ3 st pend hS3
      have hr3 := hS3.own.ro (b := l) (o := rec0 fn tmps ps assign body df .busy none) (by simp [E2, β2])
      have hlt3 := lt_of_get hr3.1
      have hget3 : ∀ b, (w3.putObj l (rec0 fn tmps ps assign body df st pend)).heap[b]? = if b = l then some (rec0 fn tmps ps assign body df st pend) else w3.heap[b]? := fun b => putObj_get hlt3
      have hsz3 : w.heap.size ≤ w3.heap.size := by have := hS3.own.size; rw [show E2.W0.heap.size = w.heap.size from World.putObj_size] at this; exact this
      refine ⟨hr3.1, hS3.own.os, hS3.own.tape, hS3.own.output, by rw [World.putObj_size]; exact hsz3, fun b hb hn => ?_, ⟨fun p hp => ?_, ?_⟩, fun b hb => ?_⟩
      · simp only [keys_cons, List.mem_cons, not_or] at hn
        rw [hget3, if_neg hn.1]
        have := hS3.own.old b (by show b < (w.putObj l _).heap.size; rw [World.putObj_size]; exact hb) hn.2
        rw [this]
        show (w.putObj l _).heap[b]? = _
        rw [hget0, if_neg hn.1]
      · rcases List.mem_cons.1 hp with rfl | hp
        · rw [hget3, if_pos rfl]
        · have hne : p.1 ≠ l := fun e => hr3.2 (by rw [← e]; exact mem_keys hp)
          rw [hget3, if_neg hne]; exact hS3.own.has.has p hp
      · rw [keys_cons, List.nodup_cons]; exact ⟨hr3.2, hS3.own.has.nodup⟩
      · rw [keys_cons] at hb ⊢
        rcases List.mem_cons.1 hb with rfl | hb
        · exact .inl (by simp)
        · rcases hS3.own.new b hb with h | h
          · exact .inl (List.mem_cons_of_mem _ h)
          · exact .inr (by rw [show E2.W0.heap.size = w.heap.size from World.putObj_size] at h; exact h)
    cases e2 with
    | normal =>
      obtain ⟨fr3, σ4, hS4, σ3, hsl, hK⟩ := hq3
      have hS3 := hS4.weak hS4.fr (Sub.of_sublist hsl hS4.own.has)
      obtain ⟨f1, f2⟩ := fin fr3 σ3 .ready none hS3
      exact ⟨_, _, run_endRound none f1, _, rfl, _, .inl ⟨rfl, σ3, hK, rfl⟩, f2⟩
    | ret =>
      obtain ⟨fr3, σ4, hS4, _, σ3, hsl, hK⟩ := hq3
      have hS3 := hS4.weak hS4.fr (Sub.of_sublist hsl hS4.own.has)
      obtain ⟨f1, f2⟩ := fin fr3 σ3 .done (some .ret) hS3
      exact ⟨_, _, run_endRound (some .ret) f1, _, rfl, _, .inr ⟨rfl, .ret, .ret, σ3, rfl, hK, rfl⟩, f2⟩
    | exit id =>
      obtain ⟨fr3, σ4, hS4, _, σ3, hsl, hK⟩ := hq3
      have hS3 := hS4.weak hS4.fr (Sub.of_sublist hsl hS4.own.has)
      obtain ⟨f1, f2⟩ := fin fr3 σ3 .done (some (.exit id)) hS3
      exact ⟨_, _, run_endRound (some (.exit id)) f1, _, rfl, _, .inr ⟨rfl, .exit id, .exit id, σ3, rfl, hK, rfl⟩, f2⟩
    | goto t =>
      obtain ⟨fr3, σ4, hS4, _, σ3, hsl, hK⟩ := hq3
      have hS3 := hS4.weak hS4.fr (Sub.of_sublist hsl hS4.own.has)
      obtain ⟨f1, f2⟩ := fin fr3 σ3 .done (some (.goto t)) hS3
      exact ⟨_, _, run_endRound (some (.goto t)) f1, _, rfl, _, .inr ⟨rfl, .goto t, .goto t, σ3, rfl, hK, rfl⟩, f2⟩
    | panic => exact hq3.elim
    | outgrown => exact hq3.elim
  | ret => obtain ⟨_, _, _, h, _⟩ := hq; cases h
  | exit => obtain ⟨_, _, _, h, _⟩ := hq; cases h
  | goto => obtain ⟨_, _, _, h, _⟩ := hq; cases h
  | panic => exact hq.elim
  | outgrown => exact hq.elim

def bindFr : List Tmp → List Value → Fr → Fr
  | p :: ps, v :: vs, fr => bindFr ps vs ((p, true, v) :: fr)
  | _, _, fr => fr
theorem bindFr_ok : ∀ (ps : List Tmp) (vs : List Value) (fr : Fr) (tmps : Array Value) (N : Nat), tmps.size = N → (ps.all fun p => Nat.blt p N) = true → LOk (look fr) ⟨tmps, []⟩ →
    LOk (look (bindFr ps vs fr)) ⟨(ps.zip vs).foldl (fun tmps (p : Tmp × Value) => tmps.setIfInBounds p.1 p.2) tmps, []⟩ ∧ ((ps.zip vs).foldl (fun tmps (p : Tmp × Value) => tmps.setIfInBounds p.1 p.2) tmps).size = N
  | [], vs, fr, tmps, N, hn, _, h => ⟨by simpa [bindFr] using h, by simpa using hn⟩
  | p :: ps, [], fr, tmps, N, hn, _, h => ⟨by simpa [bindFr] using h, by simpa using hn⟩
  | p :: ps, v :: vs, fr, tmps, N, hn, hp, h => by
    rw [List.all_cons, Bool.and_eq_true] at hp
    have h1 := h.put (d := p) (g := true) (v := v) (by show p < tmps.size; rw [hn]; exact Nat.le_of_ble_eq_true hp.1)
    have := bindFr_ok ps vs ((p, true, v) :: fr) (tmps.setIfInBounds p v) N (by simpa using hn) hp.2 h1
    simpa [bindFr] using this
theorem bindT_eq (ps : Array Tmp) (vs : List Value) (tmps : Array Value) : bindT ps vs tmps = (ps.toList.zip vs).foldl (fun tmps (p : Tmp × Value) => tmps.setIfInBounds p.1 p.2) tmps := by
  unfold bindT
  rw [← Array.foldl_toList, Array.toList_zip]

theorem run_enterLoop_inner {P : Program} {w : World} (fn : FuncId) (tmps : Array Value) (ps : Array Tmp) (assign body : Code) {l0 : Nat} {r : Loop} (h : w.heap[l0]? = some (.loop r)) :
    (Instr.enterLoop fn tmps ps assign body (some l0)).run P w = .ok (w.heap.size, []) (w.alloc (rec0 fn tmps ps assign body r.defers .ready none)) := by
  unfold Instr.enterLoop
  simp only [Sem.run_bind, run_getLoop h, run_newObj_alloc, Result.andThen, Sem.run_pure, rec0]

/-- The statement 'for .. := range g'. -/
theorem KW.range {g : Operand} {ps : Array Tmp} {assign body : Code} {f : FuncId} {first cap : List Value} {items : List (List Value)} (σ0 σc : Heap) (K : Nat → Heap → Prop) (Kx : Exit → Heap → Prop)
    (hg : opnd (look fr) g = some (true, .func (.func f) first.toArray cap.toArray)) (hσ : σ = σ0 ++ σc) (hit : Iter C.P f first cap C.E.β σc items)
    (hr : match C.r with | none => True | some l0 => ∃ r, C.E.β l0 = some (.loop r)) (hlen : ∀ x ∈ items, x.length = ps.size) (hps : (ps.toList.all fun p => Nat.blt p C.N) = true) (h0 : K 0 σ0)
    (hround : ∀ j x σ', items[j]? = some x → K j σ' → ∀ (l : Nat) (E1 : Env), (∀ b o, C.E.β b = some o → E1.β b = some o) →
      KW ⟨C.P, C.T, some l, C.N, E1, []⟩ (assignQ C.P C.T l C.N C.E.β body (roundQ K Kx j)) assign (bindFr ps.toList x fr) σ')
    (hend : ∀ σ', K items.length σ' → At Q .normal fr (σ' ++ σc)) (hx : ∀ e σ', (jmp e).isSome = true → Kx e σ' → At Q e fr (σ' ++ σc)) : KW C Q (.rangeFunc g ps assign body) fr σ := by
  intro a w hS
  have core : ∀ (fn : FuncId) (l df : Nat) (mark : List Deferred) (w₁ : World), (Instr.enterLoop fn a.tmps ps assign body C.r).run C.P w = .ok (l, mark) w₁ →
      St C fr ((l, rec0 fn a.tmps ps assign body df .ready none) :: σ) { a with defers := mark ++ a.defers } w₁ →
      ∃ (l : Nat) (mark : List Deferred) (w₁ : World) (d : Deferred) (w₁' : World) (f : FuncId) (args : Array Value) (w₂ : World),
      (Instr.enterLoop fn a.tmps ps assign body (fnc C.r).round).run C.P w = .ok (l, mark) w₁ ∧
      (resolve a.eval (rangeCall g l) 0).run C.P w₁ = .ok d w₁' ∧
      (∀ f', Target.leads C.P w₁' d.target d.args = some f' → (fnc C.r).fn f') ∧
      (invoke d.target d.args).run C.P w₁' = .ok (.enter f args) w₂ ∧
      ((fnc C.r).depth.isSome = true → 1 ≤ 0) ∧
      CallsIn (fnc C.r) (0 - 1) C.P f args w₂ (rangePost (fnc C.r) 0 C.P l (lift C Q) { a with defers := mark ++ a.defers }) := by
    intro fn l df mark w₁ he hS1
    subst hσ
    refine ⟨l, mark, w₁, { target := .fn (.func f) cap.toArray, args := first.toArray ++ #[.func (.yield l) #[] #[]] }, w₁, f, (first.toArray ++ #[.func (.yield l) #[] #[]]) ++ cap.toArray, w₁, he, ?_, fun _ _ => trivial, ?_, (fun h => by cases h), ?_⟩
    · show (Deferred.ofValue (a.eval g) (#[Operand.const (.func (.yield l) #[] #[])].map a.eval)).run C.P w₁ = _
      rw [opnd_ev hS.fr hg rfl]
      simp [Deferred.ofValue]
    · simp only [invoke]; exact run_enter hit.ok
    · have hit' := hit.run l C.E.β (fun j τ => ∃ σ', K j σ' ∧ τ = (l, rec0 fn a.tmps ps assign body df .ready none) :: σ')
        (fun τ => ∃ e c σ', jmp e = some c ∧ Kx e σ' ∧ τ = (l, rec0 fn a.tmps ps assign body df .done (some c)) :: σ') (fun _ _ h => h) (fun j x τ hx ⟨σ', hK, hτ⟩ => by
          subst hτ
          have hb := bindFr_ok ps.toList x fr a.tmps C.N hS.n hps (fun s g v hs => hS.fr s g v hs)
          rw [← bindT_eq] at hb
          exact ytr_of_round hb.2 (hlen x (List.mem_of_getElem? hx)) hb.1 (hround j x σ' hx hK l)) _ ⟨σ0, h0, rfl⟩
      have hO1 := hS1.own
      have hcall := hit'.run w₁ (fun b o hb => hO1.ro hb) hO1.has
      have e1 : (first.toArray ++ #[Value.func (.yield l) #[] #[]]) ++ cap.toArray = (first ++ [Value.func (.yield l) #[] #[]] ++ cap).toArray := by simp
      rw [e1]
      refine callsIn_fnc.2 (hcall.mono ?_)
      rintro e w₃ ⟨v, σ₃, rfl, ⟨_, σ'', rfl, hJ⟩, hst⟩
      have fin : ∀ st pend σ', st ≠ .busy → σ'' = (l, rec0 fn a.tmps ps assign body df st pend) :: σ' →
          ∃ w₄, (Instr.endLoop l).run C.P w₃ = .ok pend w₄ ∧ St C fr (σ' ++ σc) { a with defers := mark ++ a.defers } w₄ := by
        intro st pend σ' hb hσ''
        subst hσ''
        have hl3 : w₃.heap[l]? = some (rec0 fn a.tmps ps assign body df st pend) := hst.has.has (l, rec0 fn a.tmps ps assign body df st pend) List.mem_cons_self
        refine ⟨_, run_endLoop hl3 hb, ?_⟩
        have hS3 := hS1.step hst
        have hS4 := hS3.step (Stp.set (i := 0) (b := l) (o2 := rec0 fn a.tmps ps assign body df .exhausted pend) hS3.own.has rfl rfl (w' := w₃.putObj l (rec0 fn a.tmps ps assign body df .exhausted pend)) rfl rfl rfl World.putObj_size (fun k hk => World.putObj_heap_other hk) (World.putObj_heap_same (lt_of_get hl3)))
        refine hS4.weak hS4.fr ⟨fun p hp => List.mem_cons_of_mem _ hp, ?_⟩
        have hnd := hS4.own.has.nodup
        rw [keys_cons, List.nodup_cons] at hnd
        exact hnd.2
      rcases hJ with ⟨σ', hK, hτ⟩ | ⟨e, c, σ', hj, hK, hτ⟩
      · obtain ⟨w₄, r1, r2⟩ := fin .ready none σ' (by simp) hτ
        exact ⟨none, w₄, r1, fr, σ' ++ σc, r2, hend σ' hK⟩
      · obtain ⟨w₄, r1, r2⟩ := fin .done (some c) σ' (by simp) hτ
        refine ⟨some c, w₄, r1, ?_⟩
        have hq := hx e σ' (by rw [hj]; rfl) hK
        cases e with
        | ret => simp only [jmp, Option.some.injEq] at hj; subst hj; exact KW.ret hq _ _ r2
        | exit id => simp only [jmp, Option.some.injEq] at hj; subst hj; exact KW.exit hq _ _ r2
        | goto t => simp only [jmp, Option.some.injEq] at hj; subst hj; exact wpIn_goto ⟨fr, _, r2, hq⟩
        | normal => cases hj
        | panic => cases hj
        | outgrown => cases hj
  refine wpIn_rangeFunc fun fn _ => ?_
  have hO := hS.own
  cases hCr : C.r with
  | none =>
    rw [hCr] at core
    refine core fn (w.heap.size + 1) w.heap.size [{ target := .collected w.heap.size, args := #[] }] _ (run_enterLoop_outer fn a.tmps ps assign body) ?_
    have hs1 := Stp.alloc hO.has (.deferred (some []))
    have hs1' : Stp σ σ w (w.alloc (.deferred (some []))) := hs1.sub ⟨fun p hp => List.mem_cons_of_mem _ hp, hO.has.nodup⟩
    have hS1 := hS.step hs1'
    have hs2 := Stp.alloc hS1.own.has (rec0 fn a.tmps ps assign body w.heap.size .ready none)
    rw [World.size_alloc] at hs2
    have hS2 := hS1.step hs2
    refine ⟨hS2.n, hS2.fr, hS2.own, ?_, hS2.hid⟩
    obtain ⟨dl, d1, d2, d3⟩ := hS.defs
    obtain ⟨dl', d1', d2', d3'⟩ := hS2.defs
    have hdl : dl' = dl := by
      have : dl'.map (fun r => ({ target := .collected r, args := #[] } : Deferred)) = dl.map (fun r => { target := .collected r, args := #[] }) := by rw [← d1', ← d1]
      exact (List.map_inj_right (fun x y h => by simpa using h)).1 this
    subst hdl
    refine ⟨w.heap.size :: dl', by show _ :: a.defers = _; rw [List.map_cons, ← d1], ?_, fun r hr => ?_⟩
    · rw [List.nodup_cons]
      exact ⟨fun hm => by have := lt_of_get (d3 _ hm).2.2; omega, d2⟩
    · rcases List.mem_cons.1 hr with rfl | hr
      · refine ⟨hO.size, fun hm => ?_, ?_⟩
        · rw [keys_cons] at hm
          rcases List.mem_cons.1 hm with h | h
          · simp at h
          · exact hO.has.fresh h
        · have e1 : (w.alloc (.deferred (some []))).heap[w.heap.size]? = some (.deferred (some [])) := World.alloc_heap_new w _
          rw [Below.heap_alloc _ _ _ (by rw [World.size_alloc]; omega)]
          exact e1
      · exact d3' r hr
  | some l0 =>
    rw [hCr] at core hr
    obtain ⟨r, hr0⟩ := hr
    have hl0 := (hO.ro hr0).1
    refine core fn w.heap.size r.defers [] _ (run_enterLoop_inner fn a.tmps ps assign body hl0) ?_
    exact hS.step (Stp.alloc hO.has (rec0 fn a.tmps ps assign body r.defers .ready none))
end
end Go.K
