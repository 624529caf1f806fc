/- The program logic, ninth part: slices made, cut, copied. -/
import Derived.Test.YtcnebanpnnblbaaDoorK8
import Derived.Laws.MakeOwn
import Derived.Laws.CopyRow
import Derived.Laws.IdiomCopy
namespace Go.K
open Go Go.RowKit

/-- A slice that can be read: its cells, n each element. -/
def Slc (β : Nat → Option Obj) (σ : Heap) (n m : Nat) (xs : List Value) (v : Value) : Prop :=
  xs.length = m * n ∧ ∃ p c, v = .slice p m c ∧ ((p = none ∧ m = 0 ∧ c = 0) ∨ ∃ b off, p = some ⟨b, off, none⟩ ∧ ∀ j u, xs[j]? = some u → Cel β σ b (off + j) u)

theorem setI_same : ∀ {i : Nat} {σ σ' : Heap} {p : Nat × Obj}, getI i σ = some p → setI i p σ = some σ' → σ' = σ
  | i, [], σ', p, h, _ => by cases i <;> cases h
  | 0, q :: r, σ', p, h, hs => by simp only [getI, Option.some.injEq] at h; simp only [setI, Option.some.injEq] at hs; rw [← hs, h]
  | i + 1, q :: r, σ', p, h, hs => by
    simp only [getI] at h
    simp only [setI] at hs
    cases h1 : setI i p r with
    | none => rw [h1] at hs; cases hs
    | some r' => rw [h1] at hs; simp only [Option.some.injEq] at hs; rw [← hs, setI_same h h1]

theorem flat_rep (z : Value) : ∀ m : Nat, (List.replicate m [z]).flatten = List.replicate m z
  | 0 => rfl
  | m + 1 => by rw [List.replicate_succ, List.flatten_cons, flat_rep z m]; rfl
theorem Cel.mono {β : Nat → Option Obj} {σ σ' : Heap} {b off : Nat} {u : Value} (hs : ∀ p ∈ σ, p ∈ σ') (h : Cel β σ b off u) : Cel β σ' b off u := by
  rcases h with ⟨cs, e, h1, h2⟩ | h
  · exact .inl ⟨cs, e, hs _ h1, h2⟩
  · exact .inr h
theorem Slc.mono {β : Nat → Option Obj} {σ σ' : Heap} {n m : Nat} {xs : List Value} {v : Value} (hs : ∀ p ∈ σ, p ∈ σ') (h : Slc β σ n m xs v) : Slc β σ' n m xs v := by
  obtain ⟨h1, p, c, h2, h3⟩ := h
  refine ⟨h1, p, c, h2, h3.imp id ?_⟩
  rintro ⟨b, off, h4, h5⟩
  exact ⟨b, off, h4, fun j u hj => (h5 j u hj).mono hs⟩
theorem Slc.val {β : Nat → Option Obj} {σ : Heap} {n m : Nat} {xs : List Value} {v : Value} (h : Slc β σ n m xs v) : ∃ p c, v = .slice p m c := by
  obtain ⟨_, p, c, h2, _⟩ := h
  exact ⟨p, c, h2⟩

section
variable {C : Cx} {L : Look} {ops : List Oper} {Q : KQ} {o : Oper} {rest : List Oper} {fr : Fr} {σ : Heap} {d : Nat} {g : Bool}

theorem KO.makeSlice {t e : TypeId} {x y : Operand} {kl kc : IntKind} {a c : Int} {z : Value} {n m : Nat} {zs : List Value} (hg : guardOf ops (look fr) o = some true) (hd : o.dst = some d) (hn : Nat.blt d C.N = true) (ho : o.op = .makeSlice t x y)
    (hx : opnd (look fr) x = some (true, .int kl a)) (hy : opnd (look fr) y = some (true, .int kc c)) (hu : C.T.u t = some (.slice e)) (hz : C.T.i e = some (z, n, m)) (hzc : vcells z = some zs) (hzl : lenB n zs = true) (hn0 : Nat.blt 0 n = true)
    (h0 : 0 ≤ a ∧ a ≤ c) (hb : (m : Int) * c ≤ 281474976710656 ∧ c ≤ 9223372036854775807) (h : ∀ b, b ∉ keys σ → KO C ops Q rest ((d, true, .slice (some ⟨b, 0, none⟩) a.toNat c.toNat) :: fr) ((b, cl (List.replicate c.toNat zs).flatten e) :: σ)) : KO C ops Q (o :: rest) fr σ := by
  obtain ⟨i, hi1, hi2, hi3, hi4⟩ := TT.i_ok hz
  have hn1 : 0 < n := Nat.le_of_ble_eq_true hn0
  have e1 : madeCells z.cells (c.toNat * i.size) = ((List.replicate c.toNat zs).flatten).toArray := by
    rw [hi3]; exact rep_arr hzc (lenB_ok hzl) hn1 c.toNat
  refine KO.eff (Post := fun v σ' => ∃ b, b ∉ keys σ ∧ v = .slice (some ⟨b, 0, none⟩) a.toNat c.toNat ∧ σ' = (b, cl (List.replicate c.toNat zs).flatten e) :: σ) hg hd hn (fun ac w hL hO => .inl ?_) ?_
  · refine ⟨.slice (some ⟨w.heap.size, 0, none⟩) a.toNat c.toNat, w.alloc (cl (List.replicate c.toNat zs).flatten e), ?_, _, ⟨w.heap.size, hO.has.fresh, rfl, rfl⟩, Stp.alloc hO.has _⟩
    have := run_make (P := C.P) w t e i z (TT.u_ok hu) hi1 hi2 kl kc a c h0.1 h0.2 (by rw [hi4]; exact hb.1) hb.2
    simp only [execOp, ho, opnd_ev hL hx rfl, opnd_ev hL hy rfl, Sem.run_bind, this, Result.andThen_ok, Sem.run_pure, e1]
    rfl
  · rintro v σ' ⟨b, hb, rfl, rfl⟩; exact h b hb

/-- Bounds of a cut. -/
theorem run_bounds {P : Program} {w : World} {isS : Bool} {len cap : Nat} {lo hi mx : Option Value} {l h m : Nat}
    (hm : (mx = none ∧ m = cap) ∨ ∃ k a, mx = some (.int k a) ∧ 0 ≤ a ∧ a ≤ (cap : Int) ∧ m = a.toNat) (hmh : hi = none → mx = none)
    (hh : (hi = none ∧ h = len) ∨ ∃ k a, hi = some (.int k a) ∧ 0 ≤ a ∧ a ≤ (m : Int) ∧ h = a.toNat)
    (hl : (lo = none ∧ l = 0) ∨ ∃ k a, lo = some (.int k a) ∧ 0 ≤ a ∧ a ≤ (h : Int) ∧ l = a.toNat) :
    (Instr.sliceBounds isS len cap lo hi mx).run P w = .ok (l, h, m) w := by
  rcases hm with ⟨rfl, rfl⟩ | ⟨k, a, rfl, m1, m2, rfl⟩ <;> rcases hh with ⟨rfl, rfl⟩ | ⟨k', a', rfl, h1, h2, rfl⟩ <;> rcases hl with ⟨rfl, rfl⟩ | ⟨k'', a'', rfl, l1, l2, rfl⟩ <;>
    simp_all [Instr.sliceBounds, Instr.sliceBound, asIntOf]

theorem qt_slice {t e : TypeId} {x : Operand} {lo hi mx : Option Operand} {gx : Bool} {p : Option Addr} {len cap l h m n by' : Nat} {z : Value} {lv hv mv : Option Value} (ho : o.op = .slice t x lo hi mx) (hx : opnd L x = some (gx, .slice p len cap)) (hu : C.T.u t = some (.slice e)) (hz : C.T.i e = some (z, n, by'))
    (hgx : g = true → gx = true) (e1 : ∀ ac, LOk L ac → g = true → lo.map ac.eval = lv ∧ hi.map ac.eval = hv ∧ mx.map ac.eval = mv)
    (hm : g = true → (mv = none ∧ m = cap) ∨ ∃ k a, mv = some (.int k a) ∧ 0 ≤ a ∧ a ≤ (cap : Int) ∧ m = a.toNat) (hmh : hv = none → mv = none)
    (hh : g = true → (hv = none ∧ h = len) ∨ ∃ k a, hv = some (.int k a) ∧ 0 ≤ a ∧ a ≤ (m : Int) ∧ h = a.toNat)
    (hl : g = true → (lv = none ∧ l = 0) ∨ ∃ k a, lv = some (.int k a) ∧ 0 ≤ a ∧ a ≤ (h : Int) ∧ l = a.toNat) :
    Qt C L σ g o (.slice (if m = l then p else p.map (·.add (l * n))) (h - l) (m - l)) :=
  qt_val fun ac w hL _ hg => by
    obtain ⟨q1, q2, q3⟩ := e1 ac hL hg
    have := run_bounds (P := C.P) (w := w) (isS := true) (len := len) (cap := cap) (hm hg) hmh (hh hg) (hl hg)
    simp [execOp, ho, opnd_ev hL hx (hgx hg), q1, q2, q3, Instr.sliceAt, Instr.slice, run_underlying (TT.u_ok hu), this, run_sizeOf hz]

/-- 'copy' into a tracked row of one-cell elements. -/
theorem KO.copy {x y : Operand} {t t' e : TypeId} {z : Value} {by' b off dLen dCap i : Nat} {cs xs : List Value} {te : TypeId} {m : Nat} {v : Value} {σ' : Heap} (hg : guardOf ops (look fr) o = some true) (hd : o.dst = some d) (hn : Nat.blt d C.N = true) (ho : o.op = .call ⟨.builtin .copy, #[x, y], #[t, t']⟩)
    (hx : opnd (look fr) x = some (true, .slice (some ⟨b, off, none⟩) dLen dCap)) (hy : opnd (look fr) y = some (true, v)) (hu : C.T.u t = some (.slice e)) (hz : C.T.i e = some (z, 1, by')) (hv : Slc C.E.β σ 1 m xs v) (hi : getI i σ = some (b, cl cs te)) (h1 : xs.all Value.oneCell' = true)
    (hfit : off + min m dLen ≤ cs.length) (hs : setI i (b, cl (cs.take off ++ xs.take (min m dLen) ++ cs.drop (off + min m dLen)) te) σ = some σ') (h : KO C ops Q rest ((d, true, .int .i64 ((min m dLen : Nat) : Int)) :: fr) σ') : KO C ops Q (o :: rest) fr σ := by
  obtain ⟨hxl, p, c, rfl, hcase⟩ := hv
  rw [Nat.mul_one] at hxl
  obtain ⟨ti, hi1, _, hi3, _⟩ := TT.i_ok hz
  refine KO.eff (Post := fun u s => u = .int .i64 ((min m dLen : Nat) : Int) ∧ s = σ') hg hd hn (fun a w hL hO => .inl ?_) (fun _ _ ⟨e1, e2⟩ => by subst e1 e2; exact h)
  have hb := hO.has.has _ (setI_spec hi hs).2.1
  have hlen : (xs.take (min m dLen)).length = min m dLen := by rw [List.length_take]; omega
  rcases hcase with ⟨rfl, rfl, rfl⟩ | ⟨sb, so, rfl, hc⟩
  · have hr := run_copy_nil (P := C.P) w t t' o.type e ⟨b, off, none⟩ dLen dCap (TT.u_ok hu) (by rw [hi1]; rfl)
    have e0 : min 0 dLen = 0 := Nat.zero_min _
    have hσ : σ' = σ := by
      rw [e0] at hs
      simp only [List.take_zero, List.append_nil, Nat.add_zero, List.take_append_drop] at hs
      exact (setI_same hi hs)
    refine ⟨_, w, ?_, σ', ⟨rfl, rfl⟩, by rw [hσ]; exact Stp.refl hO.has⟩
    simp [execOp, ho, resolve, invoke, builtin, opnd_ev hL hx rfl, opnd_ev hL hy rfl]
    rw [hr]; simp [goInt]
  · have hr := run_copy_row (P := C.P) w t t' o.type e b off dLen dCap ⟨sb, so, none⟩ m c cs.toArray te (xs.take (min m dLen)) (TT.u_ok hu) (by rw [hi1]; simp [hi3]) hb (by rw [hlen])
      (fun j u hj => by
        rw [Addr.add_lit]
        have hlt := (List.getElem?_eq_some_iff.1 hj).1
        rw [hlen] at hlt
        rw [List.getElem?_take_of_lt hlt] at hj
        exact (hc j u hj).ok hO) (by rw [hlen]; simpa using hfit) (fun u hu => List.all_eq_true.1 h1 u (List.mem_of_mem_take hu))
    rw [hlen] at hr
    refine ⟨_, w.setRow b ((cs.toArray.toList.take off ++ xs.take (min m dLen) ++ cs.toArray.toList.drop (off + min m dLen)).toArray), ?_, σ', ⟨rfl, rfl⟩, Stp.set hO.has hi hs rfl rfl rfl (by simp [World.setRow]) (fun k hk => ?_) ?_⟩
    · simp [execOp, ho, resolve, invoke, builtin, opnd_ev hL hx rfl, opnd_ev hL hy rfl]
      rw [hr]; simp [goInt]
    · simp only [World.setRow, Array.getElem?_modify]; rw [if_neg (by omega)]
    · simp [World.setRow, Array.getElem?_modify, hb, cl]
end
end Go.K
