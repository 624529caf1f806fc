/- The program logic, fifteenth part: behind a statement its ways meet again, each with a state of a family. -/
import Derived.Test.YtnaclkdjchnbpaaDoorK14
namespace Go.K
open Go Go.RowKit

def cutAQ {α : Type} (C : Cx) (I : α → Prop) (S : α → Fr × Heap) (Q : KQ) : KQ
  | .normal, f, s => ∃ x, I x ∧ Le C f s (S x).1 (S x).2
  | e, f, s => Q e f s
section
variable {C : Cx} {Q : KQ} {fr : Fr} {σ : Heap}
theorem KW.cutA {α : Type} {x y : Code} (I : α → Prop) (S : α → Fr × Heap) (h1 : ∀ s, I s → KW C Q y (S s).1 (S s).2) (h2 : KW C (cutAQ C I S Q) x fr σ) : KW C (thenQ C (KW C Q y) Q) x fr σ := fun a w hS =>
  wpIn_mono (h2 a w hS) fun e a' w' hq => by
    cases e with
    | normal => obtain ⟨f, s, hS', z, hz, hle⟩ := hq; exact ⟨f, s, hS', fun a w h => h1 z hz a w (hle a w h)⟩
    | panic => exact hq
    | outgrown => exact hq
    | exit => exact hq
    | goto => exact hq
    | ret => exact hq
theorem At.cutA_here {α : Type} {I : α → Prop} {S : α → Fr × Heap} (x : α) (hI : I x) (h : Le C fr σ (S x).1 (S x).2) : At (cutAQ C I S Q) .normal fr σ := ⟨x, hI, h⟩
theorem At.cutA_ret {α : Type} {I : α → Prop} {S : α → Fr × Heap} (h : At Q .ret fr σ) : At (cutAQ C I S Q) .ret fr σ := h
theorem At.cutA_exit {α : Type} {I : α → Prop} {S : α → Fr × Heap} {id : Nat} (h : At Q (.exit id) fr σ) : At (cutAQ C I S Q) (.exit id) fr σ := h
end

section
variable {C : Cx} {L : Look} {σ : Heap} {g : Bool} {o : Oper}
/-- A call of a value that reads what is tracked. -/
theorem qt_callW {x : Operand} {f : FuncId} {gx : Bool} {first cap : Array Value} {args : Array Operand} {ts : Array TypeId} {gs : List Bool} {vs as : List Value} {v : Value} (ho : o.op = .call ⟨.value x, args, ts⟩) (hx : opnd L x = some (gx, .func (.func f) first cap))
    (ha : opnds L args.toList = some (gs, vs)) (hi : g = true → (gx && gs.all id) = true) (hv : first.toList ++ vs ++ cap.toList = as) (hc : g = true → Tr C.P f as C.E.β σ (fun u s => u = v ∧ s = σ)) : Qt C L σ g o v := fun a w hL hO hg => by
  have hT := hc hg
  have h := hi hg
  rw [Bool.and_eq_true] at h
  refine .inr ⟨f, _, run_call hT.1 ho (opnd_ev hL hx h.1) (opnds_ok hL ha h.2), ?_⟩
  have e : (first ++ vs.toArray) ++ cap = as.toArray := by
    rw [← hv]; apply Array.ext'; simp
  rw [e]
  exact (hT.2 w (fun b o hb => hO.ro hb) hO.has).mono fun e w' ⟨u, s, h1, ⟨h2, h3⟩, h4⟩ => by
    subst h2 h3
    exact ⟨h1, h4.quiet hO.has⟩
end

section
variable {C : Cx} {L : Look} {σ : Heap} {g : Bool} {o : Oper}
theorem qt_quoT {t t' : TypeId} {x y : Operand} {gx gy : Bool} {a b : Int} (ho : o.op = .binOp .quo t x y t')
    (hx : opnd L x = some (gx, .int .i64 a)) (hy : opnd L y = some (gy, .int .i64 b)) (hi : g = true → (gx && gy) = true) (hn : g = true → -9223372036854775807 ≤ a ∧ a ≤ 9223372036854775807 ∧ b ≠ 0) : Qt C L σ g o (.int .i64 (a.tdiv b)) :=
  fun ac w hL hO hg => by
    have := qt_quo (C := C) (σ := σ) ho hx hy hi (fun hg => by have := hn hg; omega) ac w hL hO hg
    have h := hn hg
    have h2 := Int.natAbs_tdiv_le_natAbs a b
    rw [wrap_i64 (by omega)] at this
    exact this
end

/-! ### What hangs on what was left out -/
section
variable {C : Cx} {ops : List Oper} {Q : KQ} {σ : Heap} {o : Oper} {rest : List Oper} {fr : Fr} {d m : Nat} {g : Bool}
theorem KO.skipIn (hg : guardIn ops (look fr) o = some g) (hf : g = false) (hd : o.dst = some d) (hn : Nat.blt d C.N = true) (h : KO C ops Q rest ((d, false, undef) :: fr) σ) : KO C ops Q (o :: rest) fr σ := by
  subst hf; exact KO.valIn hg hd hn (fun ac w hL hO hg => by cases hg) h
theorem KD.skipIn (hg : guardIn ops (LR (namesOf ops o) (look fr)) o = some g) (hf : g = false) (hd : o.dst = some d) (hn : Nat.blt d C.N = true) (h : KD C ops Q σ m rest ((d, false, undef) :: fr)) : KD C ops Q σ (m + 1) (o :: rest) fr := by
  subst hf; exact KD.valIn hg hd hn (fun ac w hL hO hg => by cases hg) h
end

/-! ### 'append' behind a slice that is full -/
/-- 'append' of a slice that can be read to another one that has no room: new memory. -/
theorem run_append_full {P : Program} {T : TT P} {t ty e : Nat} {z : Value} {n by' : Nat} {zs : List Value} (ht : T.u t = some (.slice e)) (hz : T.i e = some (z, n, by')) (hzc : vcells z = some zs) (hzl : zs.length = n) (hn0 : 0 < n)
    {m k c cv : Nat} {xs news : List Value} {σ : Heap} {w : World} {a b : Addr} (hh : Has σ w) (hxl : xs.length = m * n) (hxs : ∀ j u, xs[j]? = some u → w.cell? (b.add j) = some u) (hl : news.length = k * n) (hnews : ∀ j u, news[j]? = some u → w.cell? (a.add j) = some u)
    (hroom : ¬ m + k ≤ cv) (hm : m + k ≤ maxLen) (hby : (m + k) * by' ≤ 140737488355328) :
    ∃ v' w' φ', (Builtin.append_ #[t, t] ty #[.slice (some b) m cv, .slice (some a) k c]).run P w = .ok v' w' ∧ Vec e n (m + k) (xs ++ news) v' φ' ∧ Stp σ (φ' ++ σ) w w' := by
  obtain ⟨i, hi1, hi2, hi3, hi4⟩ := TT.i_ok hz
  subst hi3 hi4
  have hzs : z.cells.size = i.size := by rw [vcells_ok hzc]; simpa using hzl
  obtain ⟨v', w', hr, ho, hg⟩ := run_append_arg_grows (P := P) w t ty e i z i.size i.bytes (TT.u_ok ht) hi1 hi2 rfl rfl hzs hn0 b m cv xs hxl hxs a k c news hl hnews (by omega) hm hby
  obtain ⟨o1, ⟨rfl, o2⟩ | ⟨g', cap', cur, rfl, o2, o3, o4, o5, o6, o7⟩⟩ := ho
  · omega
  · have hcur : cur = ((xs ++ news) ++ cur.toList.drop ((m + k) * i.size)).toArray := by
      apply Array.ext'
      rw [← o7]; simp
    refine ⟨_, w', [(g', cl ((xs ++ news) ++ cur.toList.drop ((m + k) * i.size)) e)], hr, ⟨o1, .inr ⟨g', cap', cur.toList.drop ((m + k) * i.size), rfl, rfl, o4, o5, ?_⟩⟩, ?_⟩
    · rw [← o6]; conv => rhs; rw [hcur]
      simp
    · have hst : Stp (σ ++ []) (σ ++ [(g', cl ((xs ++ news) ++ cur.toList.drop ((m + k) * i.size)) e)]) w w' := by
        refine Stp.tail (by simpa using hh) hg.os hg.tape hg.output hg.size (fun b hb' _ => hg.block b hb' (by simp)) ⟨fun p hp => ?_, by simp⟩ (fun b hb' => .inr ?_)
        · simp only [List.mem_singleton] at hp
          subst hp
          rw [o3]
          simp only [cl]
          rw [← hcur]
        · simp only [keys_cons, keys_nil, List.mem_singleton] at hb'
          omega
      rw [List.append_nil] at hst
      exact hst.sub (Sub.perm List.perm_append_comm hst.has)
section
variable {C : Cx} {ops : List Oper} {Q : KQ} {o : Oper} {rest : List Oper} {fr : Fr} {σ : Heap} {d : Nat}
theorem KO.appendX {s x : Operand} {t e : TypeId} {z : Value} {n by' m k c cv : Nat} {zs xs news : List Value} {pv p : Option Addr} (hg : guardOf ops (look fr) o = some true) (hd : o.dst = some d) (hn : Nat.blt d C.N = true) (ho : o.op = .call ⟨.builtin .append, #[s, x], #[t, t]⟩)
    (hs : opnd (look fr) s = some (true, .slice pv m cv)) (hx : opnd (look fr) x = some (true, .slice p k c)) (hu : C.T.u t = some (.slice e)) (hz : C.T.i e = some (z, n, by')) (hzc : vcells z = some zs) (hzl : zs.length = n) (hn0 : 0 < n)
    (hv : SL C.E.β σ n m xs pv) (hnews : SL C.E.β σ n k news p) (hm0 : 0 < m) (hk0 : 0 < k) (hroom : ¬ m + k ≤ cv) (hm : m + k ≤ maxLen) (hby : (m + k) * by' ≤ 140737488355328)
    (h : ∀ v' φ', Vec e n (m + k) (xs ++ news) v' φ' → KO C ops Q rest ((d, true, v') :: fr) (φ' ++ σ)) : KO C ops Q (o :: rest) fr σ := by
  obtain ⟨b, off, rfl, hb⟩ := hv.2 hm0
  obtain ⟨bx, ox, rfl, hbx⟩ := hnews.2 hk0
  refine KO.eff (Post := fun v' σ' => ∃ φ', Vec e n (m + k) (xs ++ news) v' φ' ∧ σ' = φ' ++ σ) hg hd hn (fun ac w hL hO => .inl ?_) ?_
  · obtain ⟨v', w', φ', r1, r2, r3⟩ := run_append_full (ty := o.type) (c := c) (b := ⟨b, off, none⟩) (a := ⟨bx, ox, none⟩) hu hz hzc hzl hn0 hO.has hv.1 (fun j u hj => by rw [Addr.add_lit]; exact (hb j u hj).ok hO) hnews.1 (fun j u hj => by rw [Addr.add_lit]; exact (hbx j u hj).ok hO) hroom hm hby
    refine ⟨v', w', ?_, φ' ++ σ, ⟨φ', r2, rfl⟩, r3⟩
    simp [execOp, ho, resolve, invoke, builtin, opnd_ev hL hs rfl, opnd_ev hL hx rfl]
    rw [r1]
    simp
  · rintro v' σ' ⟨φ', h2, rfl⟩
    exact h v' φ' h2
end
end Go.K
