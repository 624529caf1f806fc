/- The program logic, thirteenth part: parts of the tracked heap, in whatever order they lie. -/
import Derived.Test.YtcnebanpnnblbaaDoorK12
namespace Go.K
open Go Go.RowKit

theorem Sub.perm {σ σ' : Heap} {w : World} (h : List.Perm σ σ') (hh : Has σ w) : Sub σ' σ :=
  ⟨fun _ hp => h.mem_iff.2 hp, (show List.Nodup (List.map (fun p : Nat × Obj => p.1) σ') from (h.map _).nodup_iff.1 hh.nodup)⟩

theorem SL.ofBlk {β : Nat → Option Obj} {σ : Heap} {b n m : Nat} {xs : List Value} {e : TypeId} (h : (b, cl xs e) ∈ σ) (hl : xs.length = m * n) : SL β σ n m xs (some ⟨b, 0, none⟩) :=
  ⟨hl, fun _ => ⟨b, 0, rfl, fun j u hj => .inl ⟨xs, e, h, by simpa using hj⟩⟩⟩
theorem adv_none {n m l : Nat} {p : Option Addr} (h : K.adv n p m l = none) : p = none := by
  unfold K.adv at h; split at h
  · exact h
  · cases p <;> simp at h ⊢

/-- What is told at the end, in another order. -/
theorem Tr.perm {P : Program} {f : FuncId} {args : List Value} {β : Nat → Option Obj} {σ : Heap} {R : Value → Heap → Prop} (h : Tr P f args β σ (fun v σ' => ∃ φ, List.Perm σ' φ ∧ R v φ)) : Tr P f args β σ R :=
  ⟨h.1, fun w hw hh => (h.2 w hw hh).mono fun e w' ⟨v, σ', h1, ⟨φ, h2, h3⟩, h4⟩ => ⟨v, φ, h1, h3, h4.sub (Sub.perm h2 h4.has)⟩⟩

section
variable {C : Cx} {L : Look} {ops : List Oper} {Q : KQ} {o : Oper} {rest : List Oper} {fr : Fr} {σ : Heap} {d : Nat} {g : Bool}
theorem Le.perm {fr' : Fr} {σ' : Heap} (hf : FLe fr fr') (h : List.Perm σ σ') : Le C fr σ fr' σ' := fun a w hS => hS.weak (hf a hS.fr) (Sub.perm h hS.own.has)
theorem KW.perm {c : Code} {σ' : Heap} (h : List.Perm σ σ') (hk : KW C Q c fr σ') : KW C Q c fr σ := fun a w hS => hk a w (hS.weak hS.fr (Sub.perm h hS.own.has))
theorem KO.perm {l : List Oper} {σ' : Heap} (h : List.Perm σ σ') (hk : KO C ops Q l fr σ') : KO C ops Q l fr σ := fun a w hS => hk a w (hS.weak hS.fr (Sub.perm h hS.own.has))
/-- Some alone, in whatever order. -/
theorem Le.permS {fr' : Fr} {σ' φ : Heap} (hf : FLe fr fr') (h : List.Perm σ (σ' ++ φ)) : Le C fr σ fr' σ' := fun a w hS =>
  (hS.weak (hf a hS.fr) (Sub.perm h hS.own.has)).weak (hf a hS.fr) (Sub.of_sublist (List.sublist_append_left _ _) (hS.own.has.sub (Sub.perm h hS.own.has)))
theorem KW.permS {c : Code} {σ' φ : Heap} (h : List.Perm σ (σ' ++ φ)) (hk : KW C Q c fr σ') : KW C Q c fr σ := KW.le (Le.permS (FLe.refl _) h) hk
theorem KO.permS {l : List Oper} {σ' φ : Heap} (h : List.Perm σ (σ' ++ φ)) (hk : KO C ops Q l fr σ') : KO C ops Q l fr σ := KO.le (Le.permS (FLe.refl _) h) hk

theorem eo_callF {x : Operand} {f : FuncId} {first cap : List Value} {args : Array Operand} {ts : Array TypeId} {gs : List Bool} {vs : List Value} {R : Value → Heap → Prop} (σf φ : Heap) (hp : List.Perm σ (σf ++ φ))
    (ho : o.op = .call ⟨.value x, args, ts⟩) (hx : opnd L x = some (true, .func (.func f) first.toArray cap.toArray)) (ha : opnds L args.toList = some (gs, vs)) (hi : gs.all id = true) (hT : Tr C.P f (first ++ vs ++ cap) C.E.β σf R) : EO C L σ o (fun v s => ∃ σ', R v σ' ∧ s = σ' ++ φ) := fun a w hL hO => .inr (.inr (by
  have hsub := Sub.perm hp hO.has
  have hh := hO.has.sub hsub
  have hhf : Has σf w := ⟨fun p hp => hh.has p (List.mem_append_left _ hp), by have := hh.nodup; rw [keys_append] at this; exact (List.nodup_append.1 this).1⟩
  refine ⟨f, _, run_call hT.1 ho (opnd_ev hL hx rfl) (opnds_ok hL ha hi), ?_⟩
  have e : (first.toArray ++ vs.toArray) ++ cap.toArray = (first ++ vs ++ cap).toArray := by simp
  rw [e]
  refine (hT.2 w (fun b o hb => ⟨(hO.ro hb).1, fun hm => (hO.ro hb).2 (hsub.keys b (by rw [keys_append]; exact List.mem_append_left _ hm))⟩) hhf).mono ?_
  rintro e w' ⟨v, σ', h1, h2, h3⟩
  have h4 := h3.frame hh
  exact ⟨v, h1, σ' ++ φ, ⟨σ', h2, rfl⟩, ⟨h4.os, h4.tape, h4.output, h4.size, fun b hb hnb => h4.old b hb (fun hm => hnb (hsub.keys b hm)), h4.has, fun b hb => (h4.new b hb).imp (hsub.keys b) id⟩⟩))
theorem KO.callF {x : Operand} {f : FuncId} {first cap : List Value} {args : Array Operand} {ts : Array TypeId} {gs : List Bool} {vs : List Value} {R : Value → Heap → Prop} (σf φ : Heap) (hp : List.Perm σ (σf ++ φ))
    (hg : guardOf ops (look fr) o = some true) (hd : o.dst = some d) (hn : Nat.blt d C.N = true) (ho : o.op = .call ⟨.value x, args, ts⟩) (hx : opnd (look fr) x = some (true, .func (.func f) first.toArray cap.toArray)) (ha : opnds (look fr) args.toList = some (gs, vs)) (hi : gs.all id = true)
    (hT : Tr C.P f (first ++ vs ++ cap) C.E.β σf R) (h : ∀ v σ', R v σ' → KO C ops Q rest ((d, true, v) :: fr) (σ' ++ φ)) : KO C ops Q (o :: rest) fr σ :=
  KO.ofEO hg hd hn (eo_callF σf φ hp ho hx ha hi hT) (fun v s ⟨σ', h1, h2⟩ => by subst h2; exact h v σ' h1)
theorem KO.callF0 {x : Operand} {f : FuncId} {first cap : List Value} {args : Array Operand} {ts : Array TypeId} {gs : List Bool} {vs : List Value} {R : Value → Heap → Prop} (σf φ : Heap) (hp : List.Perm σ (σf ++ φ))
    (hg : guardOf ops (look fr) o = some true) (hd : o.dst = none) (ho : o.op = .call ⟨.value x, args, ts⟩) (hx : opnd (look fr) x = some (true, .func (.func f) first.toArray cap.toArray)) (ha : opnds (look fr) args.toList = some (gs, vs)) (hi : gs.all id = true)
    (hT : Tr C.P f (first ++ vs ++ cap) C.E.β σf R) (h : ∀ v σ', R v σ' → KO C ops Q rest fr (σ' ++ φ)) : KO C ops Q (o :: rest) fr σ :=
  KO.ofEO0 hg hd (eo_callF σf φ hp ho hx ha hi hT) (fun v s ⟨σ', h1, h2⟩ => by subst h2; exact h v σ' h1)
/-- 'append' to a row whose block lies wherever. -/
theorem KO.appendF {s x : Operand} {t e : TypeId} {z : Value} {n by' m k c bx ox : Nat} {zs xs news : List Value} {v : Value} (ρ φ : Heap) (hp : List.Perm σ (ρ ++ φ)) (hg : guardOf ops (look fr) o = some true) (hd : o.dst = some d) (hn : Nat.blt d C.N = true) (ho : o.op = .call ⟨.builtin .append, #[s, x], #[t, t]⟩)
    (hs : opnd (look fr) s = some (true, v)) (hx : opnd (look fr) x = some (true, .slice (some ⟨bx, ox, none⟩) k c)) (hu : C.T.u t = some (.slice e)) (hz : C.T.i e = some (z, n, by')) (hzc : vcells z = some zs) (hzl : zs.length = n) (hn0 : 0 < n)
    (hv : Vec e n m xs v φ) (hl : news.length = k * n) (hnews : ∀ j u, news[j]? = some u → Cel C.E.β σ bx (ox + j) u) (h1 : news.all Value.oneCell' = true) (hm : m + k ≤ maxLen) (hby : (m + k) * by' ≤ 140737488355328)
    (h : ∀ v' φ', Vec e n (m + k) (xs ++ news) v' φ' → KO C ops Q rest ((d, true, v') :: fr) (ρ ++ φ')) : KO C ops Q (o :: rest) fr σ :=
  KO.perm hp (KO.append ρ φ hg hd hn ho hs hx hu hz hzc hzl hn0 rfl hv hl (fun j u hj => (hnews j u hj).mono (fun _ hq => hp.mem_iff.1 hq)) h1 hm hby h)

theorem run_append_none {P : Program} {T : TT P} {t ty e : Nat} {z : Value} {n by' : Nat} (ht : T.u t = some (.slice e)) (hz : T.i e = some (z, n, by')) (w : World) (p : Option Addr) (m c : Nat) (hmc : m ≤ c) :
    (Builtin.append_ #[t, t] ty #[.slice p m c, .slice none 0 0]).run P w = .ok (.slice p m c) w := by
  obtain ⟨i, hi1, _, _, _⟩ := TT.i_ok hz
  cases p <;> simp [Builtin.append_, run_underlying (TT.u_ok ht), sizeOf, typeInfo, hi1, Builtin.lenOf, Builtin.firstCells, loadCells, loadCellsFrom, hmc, storeCells]
theorem Vec.cap {e n m : Nat} {xs : List Value} {p : Option Addr} {k c : Nat} {φ : Heap} (h : Vec e n m xs (.slice p k c) φ) : k = m ∧ m ≤ c := by
  rcases h.2 with ⟨h1, h2, _⟩ | ⟨g, cap, sp, h1, _, h3, _⟩
  · simp only [Value.slice.injEq] at h1; omega
  · simp only [Value.slice.injEq] at h1; omega
/-- 'append' of a slice that can be read. -/
theorem KO.appendL {s x : Operand} {t e : TypeId} {z : Value} {n by' m k c cv : Nat} {zs xs news : List Value} {pv p : Option Addr} (ρ φ : Heap) (hp : List.Perm σ (ρ ++ φ)) (hg : guardOf ops (look fr) o = some true) (hd : o.dst = some d) (hn : Nat.blt d C.N = true) (ho : o.op = .call ⟨.builtin .append, #[s, x], #[t, t]⟩)
    (hs : opnd (look fr) s = some (true, .slice pv m cv)) (hx : opnd (look fr) x = some (true, .slice p k c)) (hu : C.T.u t = some (.slice e)) (hz : C.T.i e = some (z, n, by')) (hzc : vcells z = some zs) (hzl : zs.length = n) (hn0 : 0 < n)
    (hv : Vec e n m xs (.slice pv m cv) φ) (hnews : SL C.E.β σ n k news p) (hpc : p = none → c = 0 ∧ k = 0) (h1 : news.all Value.oneCell' = true) (hm : m + k ≤ maxLen) (hby : (m + k) * by' ≤ 140737488355328)
    (h : ∀ v' φ', Vec e n (m + k) (xs ++ news) v' φ' → KO C ops Q rest ((d, true, v') :: fr) (ρ ++ φ')) : KO C ops Q (o :: rest) fr σ := by
  refine KO.perm hp ?_
  have hnews' := hnews.mono (fun _ hq => hp.mem_iff.1 hq)
  have hcap := hv.cap
  cases p with
  | none =>
    obtain ⟨rfl, rfl⟩ := hpc rfl
    have hnil : news = [] := by have := hnews.1; simpa using this
    subst hnil
    refine KO.eff (Post := fun v' σ' => v' = .slice pv m cv ∧ σ' = ρ ++ φ) hg hd hn (fun a w hL hO => .inl ?_) ?_
    · refine ⟨_, w, ?_, _, ⟨rfl, rfl⟩, Stp.refl hO.has⟩
      have hr := run_append_none (P := C.P) (ty := o.type) hu hz w pv m cv hcap.2
      simp [execOp, ho, resolve, invoke, builtin, opnd_ev hL hs rfl, opnd_ev hL hx rfl]
      rw [hr]
      simp
    · rintro v' σ' ⟨rfl, rfl⟩
      exact h _ φ (by simpa using hv)
  | some a =>
    refine KO.eff (Post := fun v' σ' => ∃ φ', Vec e n (m + k) (xs ++ news) v' φ' ∧ σ' = ρ ++ φ') hg hd hn (fun ac w hL hO => .inl ?_) ?_
    · obtain ⟨v', w', φ', r1, r2, r3⟩ := run_append (ty := o.type) (a := a) (c := c) hu hz hzc hzl hn0 hv hO.has hnews'.1 (fun j u hj => by
        have hk : 0 < k := by
          rcases Nat.eq_zero_or_pos k with h0 | h0
          · subst h0
            have := hnews'.1
            simp at this
            subst this
            simp at hj
          · exact h0
        obtain ⟨bx, ox, h2, h3⟩ := hnews'.2 hk
        simp only [Option.some.injEq] at h2
        subst h2
        rw [Addr.add_lit]; exact (h3 j u hj).ok hO) h1 hm hby
      refine ⟨v', w', ?_, ρ ++ φ', ⟨φ', r2, rfl⟩, r3⟩
      simp [execOp, ho, resolve, invoke, builtin, opnd_ev hL hs rfl, opnd_ev hL hx rfl]
      rw [r1]
      simp
    · rintro v' σ' ⟨φ', h2, rfl⟩
      exact h v' φ' h2
end
/-- Bytes that were handed in. -/
structure BIn (β : Nat → Option Obj) (p : Option Addr) (m c : Nat) (l : List Nat) : Prop where
  len : l.length = m
  byt : Byt l
  sl : SL β [] 1 m (by8 l) p
  none : p = none → c = 0 ∧ m = 0
  cap : m ≤ c
  bd : m ≤ 140737488351232
theorem rd_bytes {P : Program} {β : Nat → Option Obj} {t e : TypeId} {c : Value} (hu : P.underlying t = some (.slice e)) (he : P.underlying e = some (.int .u8)) (hl : lvs P 8 e = some [e]) (hn : P.cellsOf e = 1) (hb : P.bytesOf e = 1) (h : ∃ n, Rd P β n t [c]) :
    ∃ p m cap l, c = .slice p m cap ∧ BIn β p m cap l := by
  obtain ⟨p, m, cap, xs, rfl, hs, hr⟩ := rd_slice (k := 8) (ts := [e]) hu hl (by rw [hn]; rfl) h
  have hs' := hs
  obtain ⟨h1, h2, h3, h4, h5, h6⟩ := hs
  rw [hb] at h2
  obtain ⟨ns, rfl, hns⟩ := ints_of he (m := m) (xs := xs) (by simpa using h5) (by simpa using hr)
  obtain ⟨l, e1, e2, e3⟩ := bytes_of hns
  refine ⟨p, m, cap, l, rfl, ⟨by rw [e3]; simpa using h5, e2, ?_, fun h => ⟨h4 h, by have := h4 h; omega⟩, h1, by omega⟩⟩
  rw [← e1]
  exact SL.ofR (by omega) hs'
end Go.K
