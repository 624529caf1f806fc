/- The program logic, fifteenth part: behind a statement its ways meet again, each with a state of a family; The program logic, sixteenth part: a callee may read what is tracked, but is not handed; The program logic, seventeenth part: functions that hold a label (no goto runs); The program logic, eighteenth part: 'append(nil, make([]E, n)...)'. -/
import Derived.Test.YtcnebanpnnblbaaDoorK14
import Derived.Scope
import Derived.Lib.AppendZeros
namespace Go.K
open Go Go.RowKit

def cutAQ {α : Type} (C : Cx) (I : α → Prop) (S : α → Fr × Heap) (Q : KQ) : KQ
  | .normal, f, s => ∃ x, I x ∧ Le C f s (S x).1 (S x).2
  | e, f, s => Q e f s
section
variable {C : Cx} {Q : KQ} {fr : Fr} {σ : Heap}
theorem KW.cutA {α : Type} {x y : Code} (I : α → Prop) (S : α → Fr × Heap) (h1 : ∀ s, I s → KW C Q y (S s).1 (S s).2) (h2 : KW C (cutAQ C I S Q) x fr σ) : KW C (thenQ C (KW C Q y) Q) x fr σ := fun a w hS =>
  wpIn_mono (h2 a w hS) fun e a' w' hq => by
    cases e with
    | normal => obtain ⟨f, s, hS', z, hz, hle⟩ := hq; exact ⟨f, s, hS', fun a w h => h1 z hz a w (hle a w h)⟩
    | panic => exact hq
    | outgrown => exact hq
    | exit => exact hq
    | goto => exact hq
    | ret => exact hq
theorem At.cutA_here {α : Type} {I : α → Prop} {S : α → Fr × Heap} (x : α) (hI : I x) (h : Le C fr σ (S x).1 (S x).2) : At (cutAQ C I S Q) .normal fr σ := ⟨x, hI, h⟩
theorem At.cutA_ret {α : Type} {I : α → Prop} {S : α → Fr × Heap} (h : At Q .ret fr σ) : At (cutAQ C I S Q) .ret fr σ := h
theorem At.cutA_exit {α : Type} {I : α → Prop} {S : α → Fr × Heap} {id : Nat} (h : At Q (.exit id) fr σ) : At (cutAQ C I S Q) (.exit id) fr σ := h
end

section
variable {C : Cx} {L : Look} {σ : Heap} {g : Bool} {o : Oper}
/-- A call of a value that reads what is tracked. -/
theorem qt_callW {x : Operand} {f : FuncId} {gx : Bool} {first cap : Array Value} {args : Array Operand} {ts : Array TypeId} {gs : List Bool} {vs av : List Value} {v : Value} (ho : o.op = .call ⟨.value x, args, ts⟩) (hx : opnd L x = some (gx, .func (.func f) first cap))
    (ha : opnds L args.toList = some (gs, vs)) (hi : g = true → (gx && gs.all id) = true) (hv : first.toList ++ vs ++ cap.toList = av) (hc : g = true → Tr C.P f av C.E.β σ (fun u s => u = v ∧ s = σ)) : Qt C L σ g o v := fun a w hL hO hg => by
  have hT := hc hg
  have h := hi hg
  rw [Bool.and_eq_true] at h
  refine .inr ⟨f, _, run_call hT.1 ho (opnd_ev hL hx h.1) (opnds_ok hL ha h.2), ?_⟩
  have e : (first ++ vs.toArray) ++ cap = av.toArray := by
    rw [← hv]; apply Array.ext'; simp
  rw [e]
  exact (hT.2 w (fun b o hb => hO.ro hb) hO.has).mono fun e w' ⟨u, s, h1, ⟨h2, h3⟩, h4⟩ => by
    subst h2 h3
    exact ⟨h1, h4.quiet hO.has⟩
end

section
variable {C : Cx} {L : Look} {σ : Heap} {g : Bool} {o : Oper}
theorem qt_quoT {t t' : TypeId} {x y : Operand} {gx gy : Bool} {a b : Int} (ho : o.op = .binOp .quo t x y t')
    (hx : opnd L x = some (gx, .int .i64 a)) (hy : opnd L y = some (gy, .int .i64 b)) (hi : g = true → (gx && gy) = true) (hn : g = true → -9223372036854775807 ≤ a ∧ a ≤ 9223372036854775807 ∧ b ≠ 0) : Qt C L σ g o (.int .i64 (a.tdiv b)) :=
  fun ac w hL hO hg => by
    have := qt_quo (C := C) (σ := σ) ho hx hy hi (fun hg => by have := hn hg; omega) ac w hL hO hg
    have h := hn hg
    have h2 := Int.natAbs_tdiv_le_natAbs a b
    rw [wrap_i64 (by omega)] at this
    exact this
end

/-! ### What hangs on what was left out -/
section
variable {C : Cx} {ops : List Oper} {Q : KQ} {σ : Heap} {o : Oper} {rest : List Oper} {fr : Fr} {d m : Nat} {g : Bool}
theorem KO.skipIn (hg : guardIn ops (look fr) o = some g) (hf : g = false) (hd : o.dst = some d) (hn : Nat.blt d C.N = true) (h : KO C ops Q rest ((d, false, undef) :: fr) σ) : KO C ops Q (o :: rest) fr σ := by
  subst hf; exact KO.valIn hg hd hn (fun ac w hL hO hg => by cases hg) h
theorem KD.skipIn (hg : guardIn ops (LR (namesOf ops o) (look fr)) o = some g) (hf : g = false) (hd : o.dst = some d) (hn : Nat.blt d C.N = true) (h : KD C ops Q σ m rest ((d, false, undef) :: fr)) : KD C ops Q σ (m + 1) (o :: rest) fr := by
  subst hf; exact KD.valIn hg hd hn (fun ac w hL hO hg => by cases hg) h
end

/-! ### 'append' behind a slice that is full -/
/-- 'append' of a slice that can be read to another one that has no room: new memory. -/
theorem run_append_full {P : Program} {T : TT P} {t ty e : Nat} {z : Value} {n by' : Nat} {zs : List Value} (ht : T.u t = some (.slice e)) (hz : T.i e = some (z, n, by')) (hzc : vcells z = some zs) (hzl : zs.length = n) (hn0 : 0 < n)
    {m k c cv : Nat} {xs news : List Value} {σ : Heap} {w : World} {a b : Addr} (hh : Has σ w) (hxl : xs.length = m * n) (hxs : ∀ j u, xs[j]? = some u → w.cell? (b.add j) = some u) (hl : news.length = k * n) (hnews : ∀ j u, news[j]? = some u → w.cell? (a.add j) = some u)
    (hroom : ¬ m + k ≤ cv) (hm : m + k ≤ maxLen) (hby : (m + k) * by' ≤ 140737488355328) :
    ∃ v' w' φ', (Builtin.append_ #[t, t] ty #[.slice (some b) m cv, .slice (some a) k c]).run P w = .ok v' w' ∧ Vec e n (m + k) (xs ++ news) v' φ' ∧ Stp σ (φ' ++ σ) w w' := by
  obtain ⟨i, hi1, hi2, hi3, hi4⟩ := TT.i_ok hz
  subst hi3 hi4
  have hzs : z.cells.size = i.size := by rw [vcells_ok hzc]; simpa using hzl
  obtain ⟨v', w', hr, ho, hg⟩ := run_append_arg_grows (P := P) w t ty e i z i.size i.bytes (TT.u_ok ht) hi1 hi2 rfl rfl hzs hn0 b m cv xs hxl hxs a k c news hl hnews (by omega) hm hby
  obtain ⟨o1, ⟨rfl, o2⟩ | ⟨g', cap', cur, rfl, o2, o3, o4, o5, o6, o7⟩⟩ := ho
  · omega
  · have hcur : cur = ((xs ++ news) ++ cur.toList.drop ((m + k) * i.size)).toArray := by
      apply Array.ext'
      rw [← o7]; simp
    refine ⟨_, w', [(g', cl ((xs ++ news) ++ cur.toList.drop ((m + k) * i.size)) e)], hr, ⟨o1, .inr ⟨g', cap', cur.toList.drop ((m + k) * i.size), rfl, rfl, o4, o5, ?_⟩⟩, ?_⟩
    · rw [← o6]; conv => rhs; rw [hcur]
      simp
    · have hst : Stp (σ ++ []) (σ ++ [(g', cl ((xs ++ news) ++ cur.toList.drop ((m + k) * i.size)) e)]) w w' := by
        refine Stp.tail (by simpa using hh) hg.os hg.tape hg.output hg.size (fun b hb' _ => hg.block b hb' (by simp)) ⟨fun p hp => ?_, by simp⟩ (fun b hb' => .inr ?_)
        · simp only [List.mem_singleton] at hp
          subst hp
          rw [o3]
          simp only [cl]
          rw [← hcur]
        · simp only [keys_cons, keys_nil, List.mem_singleton] at hb'
          omega
      rw [List.append_nil] at hst
      exact hst.sub (Sub.perm List.perm_append_comm hst.has)
section
variable {C : Cx} {ops : List Oper} {Q : KQ} {o : Oper} {rest : List Oper} {fr : Fr} {σ : Heap} {d : Nat}
theorem KO.appendX {s x : Operand} {t e : TypeId} {z : Value} {n by' m k c cv : Nat} {zs xs news : List Value} {pv p : Option Addr} (hg : guardOf ops (look fr) o = some true) (hd : o.dst = some d) (hn : Nat.blt d C.N = true) (ho : o.op = .call ⟨.builtin .append, #[s, x], #[t, t]⟩)
    (hs : opnd (look fr) s = some (true, .slice pv m cv)) (hx : opnd (look fr) x = some (true, .slice p k c)) (hu : C.T.u t = some (.slice e)) (hz : C.T.i e = some (z, n, by')) (hzc : vcells z = some zs) (hzl : zs.length = n) (hn0 : 0 < n)
    (hv : SL C.E.β σ n m xs pv) (hnews : SL C.E.β σ n k news p) (hm0 : 0 < m) (hk0 : 0 < k) (hroom : ¬ m + k ≤ cv) (hm : m + k ≤ maxLen) (hby : (m + k) * by' ≤ 140737488355328)
    (h : ∀ v' φ', Vec e n (m + k) (xs ++ news) v' φ' → KO C ops Q rest ((d, true, v') :: fr) (φ' ++ σ)) : KO C ops Q (o :: rest) fr σ := by
  obtain ⟨b, off, rfl, hb⟩ := hv.2 hm0
  obtain ⟨bx, ox, rfl, hbx⟩ := hnews.2 hk0
  refine KO.eff (Post := fun v' σ' => ∃ φ', Vec e n (m + k) (xs ++ news) v' φ' ∧ σ' = φ' ++ σ) hg hd hn (fun ac w hL hO => .inl ?_) ?_
  · obtain ⟨v', w', φ', r1, r2, r3⟩ := run_append_full (ty := o.type) (c := c) (b := ⟨b, off, none⟩) (a := ⟨bx, ox, none⟩) hu hz hzc hzl hn0 hO.has hv.1 (fun j u hj => by rw [Addr.add_lit]; exact (hb j u hj).ok hO) hnews.1 (fun j u hj => by rw [Addr.add_lit]; exact (hbx j u hj).ok hO) hroom hm hby
    refine ⟨v', w', ?_, φ' ++ σ, ⟨φ', r2, rfl⟩, r3⟩
    simp [execOp, ho, resolve, invoke, builtin, opnd_ev hL hs rfl, opnd_ev hL hx rfl]
    rw [r1]
    simp
  · rintro v' σ' ⟨φ', h2, rfl⟩
    exact h v' φ' h2
end
end Go.K
namespace Go.K
open Go Go.RowKit

/-- β and the blocks of φ. -/
def frz (β : Nat → Option Obj) : Heap → Nat → Option Obj
  | [], b => β b
  | (k, o) :: r, b => bif Nat.beq k b then some o else frz β r b
theorem frz_of (β : Nat → Option Obj) : ∀ {φ : Heap} {b : Nat} {o : Obj}, frz β φ b = some o → (b, o) ∈ φ ∨ (b ∉ keys φ ∧ β b = some o)
  | [], b, o, h => .inr ⟨by simp [keys], h⟩
  | (k, o') :: r, b, o, h => by
    simp only [frz] at h
    cases hk : Nat.beq k b with
    | true =>
      rw [hk] at h
      have := Nat.eq_of_beq_eq_true hk
      subst this
      simp only [cond_true, Option.some.injEq] at h
      subst h
      exact .inl (List.Mem.head _)
    | false =>
      rw [hk] at h
      have hne : b ≠ k := fun e => by subst e; rw [Nat.beq_refl] at hk; cases hk
      rcases frz_of β h with h1 | ⟨h1, h2⟩
      · exact .inl (List.Mem.tail _ h1)
      · refine .inr ⟨?_, h2⟩
        simp only [keys, List.map_cons, List.mem_cons, not_or] at h1 ⊢
        exact ⟨hne, h1⟩
theorem frz_mem (β : Nat → Option Obj) : ∀ {φ : Heap} {b : Nat} {o : Obj}, (keys φ).Nodup → (b, o) ∈ φ → frz β φ b = some o
  | (k, o') :: r, b, o, hn, h => by
    simp only [keys, List.map_cons, List.nodup_cons] at hn
    rcases List.mem_cons.1 h with h | h
    · cases h
      simp [frz, Nat.beq_refl]
    · have hne : k ≠ b := fun e => hn.1 (by subst e; exact List.mem_map.2 ⟨_, h, rfl⟩)
      have hk : Nat.beq k b = false := by
        cases hk : Nat.beq k b with
        | true => exact absurd (Nat.eq_of_beq_eq_true hk) hne
        | false => rfl
      simp only [frz, hk, cond_false]
      exact frz_mem β hn.2 h
theorem frz_not (β : Nat → Option Obj) : ∀ {φ : Heap} {b : Nat}, b ∉ keys φ → frz β φ b = β b
  | [], _, _ => rfl
  | (k, o') :: r, b, h => by
    simp only [keys, List.map_cons, List.mem_cons, not_or] at h
    have hk : Nat.beq k b = false := by
      cases hk : Nat.beq k b with
      | true => exact absurd (Nat.eq_of_beq_eq_true hk).symm h.1
      | false => rfl
    simp only [frz, hk, cond_false]
    exact frz_not β h.2
/-- What may be read, and is tracked, may be read as what is given. -/
theorem Cel.frz {β β' : Nat → Option Obj} {φ : Heap} {b off : Nat} {u : Value} (h1 : ∀ b o, β b = some o → β' b = some o) (h2 : ∀ p ∈ φ, β' p.1 = some p.2) (h : Cel β φ b off u) : Cel β' [] b off u := by
  rcases h with ⟨cs, e, h3, h4⟩ | ⟨c, e, fz, h3, h4⟩
  · exact .inr ⟨_, e, _, h2 _ h3, by simpa using h4⟩
  · exact .inr ⟨c, e, fz, h1 _ _ h3, h4⟩
theorem SL.frz {β β' : Nat → Option Obj} {φ : Heap} {n m : Nat} {xs : List Value} {p : Option Addr} (h1 : ∀ b o, β b = some o → β' b = some o) (h2 : ∀ p ∈ φ, β' p.1 = some p.2) (h : SL β φ n m xs p) : SL β' [] n m xs p :=
  ⟨h.1, fun hm => by obtain ⟨b, off, h3, h4⟩ := h.2 hm; exact ⟨b, off, h3, fun j u hj => (h4 j u hj).frz h1 h2⟩⟩

section
variable {C : Cx} {L : Look} {ops : List Oper} {Q : KQ} {o : Oper} {rest : List Oper} {fr : Fr} {σ : Heap} {d : Nat} {g : Bool}
theorem eo_callB {x : Operand} {f : FuncId} {first cap : List Value} {args : Array Operand} {ts : Array TypeId} {gs : List Bool} {vs : List Value} {R : Value → Heap → Prop} (σf φ : Heap) (hp : List.Perm σ (σf ++ φ))
    (ho : o.op = .call ⟨.value x, args, ts⟩) (hx : opnd L x = some (true, .func (.func f) first.toArray cap.toArray)) (ha : opnds L args.toList = some (gs, vs)) (hi : gs.all id = true)
    (hT : ∀ β', (∀ b o, C.E.β b = some o → β' b = some o) → (∀ p ∈ φ, β' p.1 = some p.2) → Tr C.P f (first ++ vs ++ cap) β' σf R) : EO C L σ o (fun v s => ∃ σ', R v σ' ∧ s = σ' ++ φ) := fun a w hL hO => .inr (.inr (by
  have hsub := Sub.perm hp hO.has
  have hh := hO.has.sub hsub
  have hnd := hh.nodup
  rw [keys_append] at hnd
  obtain ⟨hn1, hn2, hn3⟩ := List.nodup_append.1 hnd
  have hhf : Has σf w := ⟨fun p hp => hh.has p (List.mem_append_left _ hp), hn1⟩
  have hb0 : ∀ b o, C.E.β b = some o → b ∉ keys φ := fun b o hb hm => (hO.ro hb).2 (hsub.keys b (by rw [keys_append]; exact List.mem_append_right _ hm))
  have hT' := hT (Go.K.frz C.E.β φ) (fun b o hb => by rw [frz_not _ (hb0 b o hb)]; exact hb) (fun p hp => frz_mem _ hn2 hp)
  refine ⟨f, _, run_call hT'.1 ho (opnd_ev hL hx rfl) (opnds_ok hL ha hi), ?_⟩
  have e : (first.toArray ++ vs.toArray) ++ cap.toArray = (first ++ vs ++ cap).toArray := by simp
  rw [e]
  refine (hT'.2 w (fun b o hb => ?_) hhf).mono ?_
  · rcases frz_of _ hb with h1 | ⟨_, h1⟩
    · exact ⟨hh.has _ (List.mem_append_right _ h1), fun hm => hn3 b hm b (List.mem_map.2 ⟨_, h1, rfl⟩) rfl⟩
    · exact ⟨(hO.ro h1).1, fun hm => (hO.ro h1).2 (hsub.keys b (by rw [keys_append]; exact List.mem_append_left _ hm))⟩
  rintro e w' ⟨v, σ', h1, h2, h3⟩
  have h4 := h3.frame hh
  exact ⟨v, h1, σ' ++ φ, ⟨σ', h2, rfl⟩, ⟨h4.os, h4.tape, h4.output, h4.size, fun b hb hnb => h4.old b hb (fun hm => hnb (hsub.keys b hm)), h4.has, fun b hb => (h4.new b hb).imp (hsub.keys b) id⟩⟩))
/-- The callee is handed σf, and may read φ. -/
theorem KO.callB {x : Operand} {f : FuncId} {first cap : List Value} {args : Array Operand} {ts : Array TypeId} {gs : List Bool} {vs : List Value} {R : Value → Heap → Prop} (σf φ : Heap) (hp : List.Perm σ (σf ++ φ))
    (hg : guardOf ops (look fr) o = some true) (hd : o.dst = some d) (hn : Nat.blt d C.N = true) (ho : o.op = .call ⟨.value x, args, ts⟩) (hx : opnd (look fr) x = some (true, .func (.func f) first.toArray cap.toArray)) (ha : opnds (look fr) args.toList = some (gs, vs)) (hi : gs.all id = true)
    (hT : ∀ β', (∀ b o, C.E.β b = some o → β' b = some o) → (∀ p ∈ φ, β' p.1 = some p.2) → Tr C.P f (first ++ vs ++ cap) β' σf R) (h : ∀ v σ', R v σ' → KO C ops Q rest ((d, true, v) :: fr) (σ' ++ φ)) : KO C ops Q (o :: rest) fr σ :=
  KO.ofEO hg hd hn (eo_callB σf φ hp ho hx ha hi hT) (fun v s ⟨σ', h1, h2⟩ => by subst h2; exact h v σ' h1)
/-- A row of no elements. -/
theorem KO.buildSlice0 {t e n m : Nat} {z : Value} (hg : guardOf ops (look fr) o = some true) (hd : o.dst = some d) (hn : Nat.blt d C.N = true) (ho : o.op = .buildSlice t 0 #[])
    (hu : C.T.u t = some (.slice e)) (hz : C.T.i e = some (z, n, m)) (h : ∀ b, b ∉ keys σ → KO C ops Q rest ((d, true, .slice (some ⟨b, 0, none⟩) 0 0) :: fr) ((b, cl [] e) :: σ)) : KO C ops Q (o :: rest) fr σ := by
  refine KO.eff (Post := fun v σ' => ∃ b, b ∉ keys σ ∧ v = .slice (some ⟨b, 0, none⟩) 0 0 ∧ σ' = (b, cl [] e) :: σ) hg hd hn (fun a w hL hO => .inl ?_) ?_
  · refine ⟨.slice (some ⟨w.heap.size, 0, none⟩) 0 0, w.alloc (cl [] e), ?_, _, ⟨w.heap.size, hO.has.fresh, rfl, rfl⟩, Stp.alloc hO.has _⟩
    simp [execOp, ho, Instr.buildSlice, run_underlying (TT.u_ok hu), run_sizeOf hz, newRow, cl, Instr.fill]
    have e0 : ∀ f : Nat → Value, Array.map f (Array.range 0) = #[] := fun f => by simp [Array.range]
    rw [e0]
  · rintro v σ' ⟨b, hb, rfl, rfl⟩; exact h b hb
end
end Go.K
namespace Go
section
variable {P : Program} {b : Frame} {a : Act} {k : List Item} {cs : List Frame} {w : World}
theorem stepR_scope {c : Code} : step P (lone (b.atR a (.code (.scope c) :: k)) cs w) = .next (lone (b.atR a (.code c :: .inScope c :: k)) cs w) :=
  step_lone_go (by simp [stepG, stepG.exec, Frame.atR])
theorem stepR_inScope {c : Code} : step P (lone (b.atR a (.inScope c :: k)) cs w) = .next (lone (b.atR a k) cs w) :=
  step_lone_go (by simp [stepG, stepG.exec, Frame.atR])
theorem wpIn_scope {F : Fence} {n : Nat} {Q : Exit → Act → World → Prop} {c : Code} (h : c.wpIn F n P (Exit.noGoto Q) a w) : (Code.scope c).wpIn F n P Q a w := by
  intro b k cs hro hb hr
  have h0 : (lone (b.atR a (.code (.scope c) :: k)) cs w).fenced P F := fenced_calm hb hr rfl
  obtain ⟨e, a₁, w₁, hq, harr⟩ := h b (.inScope c :: k) cs hro hb hr
  cases e with
  | normal => exact ⟨.normal, a₁, w₁, hq, .head h0 stepR_scope (StepsIn.trans harr (.one (fenced_calm hb hr rfl) stepR_inScope))⟩
  | exit id =>
    have hx : exitTo id (.inScope c :: k) = exitTo id k := by simp [exitTo]
    exact ⟨_, a₁, w₁, hq, fun k' hk => .head h0 stepR_scope (harr.1 k' (by rw [hx]; exact hk)),
      fun hr' hk => let ⟨k₁, h1, h2⟩ := harr.2 hr' (by rw [hx]; exact hk); ⟨k₁, h1, .head h0 stepR_scope h2⟩⟩
  | goto l => exact hq.elim
  | ret => exact ⟨_, a₁, w₁, hq, .of_steps (.one h0 stepR_scope) harr⟩
  | panic ch => exact ⟨_, a₁, w₁, hq, .of_steps (.one h0 stepR_scope) harr⟩
  | outgrown => exact ⟨_, a₁, w₁, hq, .of_steps (.one h0 stepR_scope) harr⟩
end
end Go
namespace Go.K
open Go Go.RowKit
def scopeQ (Q : KQ) : KQ
  | .goto _, _, _ => False
  | e, fr, σ => Q e fr σ
section
variable {C : Cx} {Q : KQ} {fr : Fr} {σ : Heap}
theorem KW.scope {c : Code} (h : KW C (scopeQ Q) c fr σ) : KW C Q (.scope c) fr σ := fun a w hS =>
  wpIn_scope (wpIn_mono (h a w hS) fun e a' w' hq => by
    cases e with
    | goto l => obtain ⟨fr', σ', h1, h2⟩ := hq; exact h2.elim
    | normal => exact hq
    | exit id => exact hq
    | ret => exact hq
    | panic ch => exact hq
    | outgrown => exact hq)
theorem KW.label {l : Nat} (h : At Q .normal fr σ) : KW C Q (.label l) fr σ := fun _ _ hS => wpIn_label ⟨fr, σ, hS, h⟩
theorem At.scope_normal (h : At Q .normal fr σ) : At (scopeQ Q) .normal fr σ := h
theorem At.scope_ret (h : At Q .ret fr σ) : At (scopeQ Q) .ret fr σ := h
theorem At.scope_exit {id : Nat} (h : At Q (.exit id) fr σ) : At (scopeQ Q) (.exit id) fr σ := h
end
/-- A call that is handed nothing, and leaves nothing. -/
theorem Tr.quiet {P : Program} {f : FuncId} {args : List Value} {β : Nat → Option Obj} {σ : Heap} {v : Value} (h : Tr P f args β [] (fun u s => u = v ∧ s = [])) : Tr P f args β σ (fun u s => u = v ∧ s = σ) :=
  ⟨h.1, fun w hw hh => (h.2 w (fun b o hb => ⟨(hw b o hb).1, by simp⟩) (Has.nil w)).mono (fun e w' ⟨v', σ', h1, h2, h3⟩ => ⟨v', σ, h1, ⟨h2.1, rfl⟩, by
    obtain ⟨_, rfl⟩ := h2
    exact h3.frame (σ := []) hh⟩)⟩
end Go.K
namespace Go.K
open Go Go.RowKit

theorem run_append_zeros {P : Program} {T : TT P} {t tn ty e : Nat} {z : Value} {n by' : Nat} {zs : List Value} {kq kn : IntKind} (ht : T.u t = some (.slice e)) (htn : T.u tn = some (.int kn)) (hz : T.i e = some (z, n, by')) (hzc : vcells z = some zs) (hzl : zs.length = n) (hn0 : 0 < n)
    {k : Nat} {σ : Heap} {w : World} (hk : 0 < k) (hm : k ≤ maxLen) (hby : k * by' ≤ 140737488355328) (hh : Has σ w) :
    ∃ cap sp w', (Builtin.append_ #[t, tn] ty #[.slice none 0 0, .int kq k]).run P w = .ok (.slice (some ⟨w.heap.size, 0, none⟩) k cap) w' ∧ sp.length = cap * n ∧ k ≤ cap ∧ cap ≤ maxLen ∧ Stp σ ((w.heap.size, cl sp e) :: σ) w w' := by
  obtain ⟨i, hi1, hi2, hi3, hi4⟩ := TT.i_ok hz
  subst hi3 hi4
  have hzs : z.cells.size = i.size := by rw [vcells_ok hzc]; simpa using hzl
  have hm63 : (k : Int) ≤ 9223372036854775807 := by have : maxLen = 9223372036854775807 := rfl; omega
  have hr := Lib.run_append_nil_zeros (P := P) w t tn ty e i z kq kn (TT.u_ok ht) (TT.u_ok htn) hi1 hi2 k hk hn0 hm63 (by omega)
  have h2 := grownCap_ge w k 0 e
  refine ⟨grownCap w k 0 e, (Builtin.zeroCells z.cells k ++ Builtin.zeroCells z.cells (grownCap w k 0 e - k)).toList, _, hr, ?_, h2, grownCap_le_maxLen w k 0 e (by omega), ?_⟩
  · rw [Array.length_toList, Array.size_append, size_zeroCells, size_zeroCells, hzs, ← Nat.add_mul]
    congr 1; omega
  · have hsz : w.drew.heap.size = w.heap.size := rfl
    have hst : Stp (σ ++ []) (σ ++ [(w.heap.size, cl (Builtin.zeroCells z.cells k ++ Builtin.zeroCells z.cells (grownCap w k 0 e - k)).toList e)]) w (w.drew.alloc (.cells (Builtin.zeroCells z.cells k ++ Builtin.zeroCells z.cells (grownCap w k 0 e - k)) e)) := by
      refine Stp.tail (by simpa using hh) rfl rfl rfl (by rw [World.size_alloc, hsz]; omega) (fun b hb _ => Below.heap_alloc w.drew _ b hb) ⟨fun p hp => ?_, by simp⟩ (fun b hb => .inr ?_)
      · simp only [List.mem_singleton] at hp
        subst hp
        have := World.alloc_heap_new w.drew (Obj.cells (Builtin.zeroCells z.cells k ++ Builtin.zeroCells z.cells (grownCap w k 0 e - k)) e)
        rw [hsz] at this
        rw [this]
        simp [cl]
      · simp at hb; omega
    rw [List.append_nil] at hst
    exact hst.sub (Sub.perm List.perm_append_comm hst.has)
section
variable {C : Cx} {ops : List Oper} {Q : KQ} {o : Oper} {rest : List Oper} {fr : Fr} {σ : Heap} {d : Nat}
theorem KO.appendZ {s x : Operand} {t tn e : TypeId} {z : Value} {n by' : Nat} {a : Int} {zs : List Value} {kq kn : IntKind} (hg : guardOf ops (look fr) o = some true) (hd : o.dst = some d) (hn : Nat.blt d C.N = true) (ho : o.op = .call ⟨.builtin .append, #[s, x], #[t, tn]⟩)
    (hs : opnd (look fr) s = some (true, .slice none 0 0)) (hx : opnd (look fr) x = some (true, .int kq a)) (hu : C.T.u t = some (.slice e)) (hun : C.T.u tn = some (.int kn)) (hz : C.T.i e = some (z, n, by')) (hzc : vcells z = some zs) (hzl : zs.length = n) (hn0 : 0 < n)
    (h0 : 0 < a) (hm : a.toNat ≤ maxLen) (hby : a.toNat * by' ≤ 140737488355328)
    (h : ∀ b cap sp, b ∉ keys σ → sp.length = cap * n → a.toNat ≤ cap → cap ≤ maxLen → KO C ops Q rest ((d, true, .slice (some ⟨b, 0, none⟩) a.toNat cap) :: fr) ((b, cl sp e) :: σ)) : KO C ops Q (o :: rest) fr σ := by
  obtain ⟨k, rfl⟩ := Int.eq_ofNat_of_zero_le (Int.le_of_lt h0)
  refine KO.eff (Post := fun v' σ' => ∃ b cap sp, b ∉ keys σ ∧ sp.length = cap * n ∧ k ≤ cap ∧ cap ≤ maxLen ∧ v' = .slice (some ⟨b, 0, none⟩) k cap ∧ σ' = (b, cl sp e) :: σ) hg hd hn (fun ac w hL hO => .inl ?_) ?_
  · obtain ⟨cap, sp, w', r1, r2, r3, r4, r5⟩ := run_append_zeros (ty := o.type) (kq := kq) hu hun hz hzc hzl hn0 (k := k) (by omega) (by simpa using hm) (by simpa using hby) hO.has
    refine ⟨_, w', ?_, _, ⟨w.heap.size, cap, sp, hO.has.fresh, r2, r3, r4, rfl, rfl⟩, r5⟩
    simp [execOp, ho, resolve, invoke, builtin, opnd_ev hL hs rfl, opnd_ev hL hx rfl]
    rw [r1]
    simp
  · rintro v' σ' ⟨b, cap, sp, h1, h2, h3, h4, rfl, rfl⟩
    exact h b cap sp h1 h2 (by simpa using h3) h4
theorem qt_cap {L : Look} {g : Bool} {x : Operand} {t : TypeId} {gx : Bool} {p : Option Addr} {n c : Nat} {e : TypeId} (ho : o.op = .call ⟨.builtin .cap, #[x], #[t]⟩) (hx : opnd L x = some (gx, .slice p n c)) (hi : g = true → gx = true) (hu : C.T.u t = some (.slice e)) : Qt C L σ g o (.int .i64 (c : Int)) :=
  qt_val fun ac w hL hO hg => by
    simp [execOp, ho, resolve, invoke, builtin, opnd_ev hL hx (hi hg), Builtin.cap_, run_underlying (TT.u_ok hu), goInt]
theorem qt_no {L : Look} {g : Bool} {v : Value} (h : g = false) : Qt C L σ g o v := fun _ _ _ _ hg => by rw [h] at hg; cases hg
end
end Go.K
