/- The frame of a law: its arguments opened; what it asks of the world behind it follows of 'Below'. -/
import Derived.Test.YtcnebanpnnblbaaDoorKD
import Derived.ProofKit
import Derived.Lib.SmallJoins
namespace Go.K
open Go Go.RowKit Go.ChangeShapes Go.WideShapes Go.ChangeAt

theorem trodAll_stays {H : Type} {enc : TypeId × Value → H} {P : Program} (hl : laidOutB P = true) {W W' : World} {sp : Nat → Bool} (hb : Below W.heap.size W W') : ∀ {ts : List TypeId} {vs : List Value} {ds : List (DataW H)} {ps : List MemPlace},
    (ts.all fun t => P.readableRec t && decide (t < P.types.size)) = true → DataW.TrodAll enc P W 0 (fun _ => true) true ts vs ds ps → (∀ p ∈ ps, sp p.block = true) → (∀ p ∈ ps, p.block < W.heap.size) → DataW.TrodAll enc P W' 0 sp true ts vs ds ps
  | [], [], [], ps, _, h, _, _ => h
  | t :: ts, v :: vs, d :: ds, ps, hts, h, hs, hlt => by
    obtain ⟨p, q, h1, h2, rfl⟩ := h
    simp only [List.all_cons, Bool.and_eq_true, decide_eq_true_eq] at hts
    exact ⟨p, q, WideElems.Trod_stays hl hts.1.1 hts.1.2 h1 (fun x hx => hb.same (hlt x (by simp [hx]))) (fun x hx => hs x (by simp [hx])),
      trodAll_stays hl hb (by simpa using hts.2) h2 (fun x hx => hs x (by simp [hx])) (fun x hx => hlt x (by simp [hx])), rfl⟩
  | [], [], _ :: _, _, _, h, _, _ => h.elim
  | [], _ :: _, _, _, _, h, _, _ => by cases ‹List (DataW H)› <;> exact h.elim
  | _ :: _, [], _, _, _, h, _, _ => by cases ‹List (DataW H)› <;> exact h.elim
  | _ :: _, _ :: _, [], _, _, h, _, _ => h.elim


/-- A law that returned true, and left what it found. -/
theorem law_frame {H : Type} {enc : TypeId × Value → H} {P : Program} {f : Func} {s : ChangeSpec} {apart fresh handsOn again : Bool} {W W' : World} {args : Array Value} {ds gs : List (DataW H)} {before : List MemPlace} {tb : TypeId} (hl : laidOutB P = true)
    (hW : DataW.Whole enc P f.params.toList s.vars apart W args.toList ds gs before) (hv : s.vars = []) (hts : (f.params.toList.all fun t => P.readableRec t && decide (t < P.types.size)) = true) (hr : f.resultTypes = #[tb]) (hbt : P.underlying tb = some .bool)
    (hfn : s.fn H (ds ++ gs) = { results := [.lit (.bool true)], args := ds }) (hb : Below W.heap.size W W') : s.post enc P f apart fresh handsOn again W args (.bool true) W' := by
  have hW0 := hW
  have hlt : ∀ p ∈ before, p.block < W.heap.size := fun p hp => hW.lt p hp
  obtain ⟨p, q, hA, hV, rfl, hz, hn⟩ := hW
  rw [hv] at hV
  have hq : gs = [] ∧ q = [] := by
    cases gs with
    | nil => exact ⟨rfl, hV⟩
    | cons _ _ => exact hV.elim
  obtain ⟨rfl, rfl⟩ := hq
  have hres : ∀ (b : Nat) (sp : Nat → Bool) (hd : Bool), DataW.TrodAll enc P W' b sp hd f.resultTypes.toList ((Value.bool true).resultList f.resultTypes.size) (s.fn H (ds ++ [])).results [] := fun _ _ _ => by
    rw [hfn, hr]; exact trodAll_mk1 (shut_bool hbt true)
  have hargs : ∀ sp : Nat → Bool, (∀ x ∈ p ++ [], sp x.block = true) → DataW.TrodAll enc P W' 0 sp true f.params.toList args.toList (s.fn H (ds ++ [])).args p := fun sp hs => by
    rw [hfn]; exact trodAll_stays hl hb hts hA (fun x hx => hs x (by simpa using hx)) (fun x hx => hlt x (by simpa using hx))
  have hvars : ∀ sp : Nat → Bool, DataW.TrodVars enc P W' sp s.vars (s.fn H (ds ++ [])).vars [] := fun _ => by rw [hfn, hv]; rfl
  have hold : ∀ x ∈ p ++ [], (fun b => decide (b < W.heap.size)) x.block = true := fun x hx => by simpa using hlt x hx
  refine ⟨ds, [], p ++ [], [], p, [], hW0, hres _ _ _, hargs _ hold, hvars _, World.keptBut_mono (fun x hx => ⟨hx, ?_⟩) (hb.frame (· ∈ p ++ [])), fun _ => ?_⟩
  · rw [List.mem_append] at hx
    exact Or.inr hx
  · refine ⟨ok_one hr rfl (okWide_bool_mk hbt true), _, _, ([] ++ p) ++ [], ⟨[] ++ p, [], trodAll_append (hargs _ (fun _ _ => rfl)) (hres _ _ _), hvars _, rfl, ?_, ?_⟩, ?_⟩
    · intro b off hp
      have hp' : MemPlace.cell b off ∈ p ++ [] := by simpa using hp
      rw [hb.frozen (p := ⟨b, off, none⟩) (hlt _ hp')]
      exact hz b off hp'
    · intro ha
      have := hn ha
      simpa using this
    · intro x hx _
      simpa using hx

/-- An aggregate of whole numbers. -/
theorem open_ints {P : Program} {W : World} {r : Reach} {b0 : Nat} {t : TypeId} {v : Value} {n : Nat} {ts : List TypeId} (hu : (match P.underlying t with | some (.struct _) => true | some (.array _ _) => true | _ => false) = true) (hC : P.cellsOf t = n) (hct : P.cellTypes P.depth t = some ts)
    (hi : (ts.all fun u => match P.underlying u with | some (.int .i64) => true | _ => false) = true) (hv : Value.okWide P W r b0 t v) :
    ∃ ns : List Int, ns.length = n ∧ v = .agg (ns.map (Value.int .i64)).toArray ∧ ∀ x ∈ ns, -9223372036854775808 ≤ x ∧ x ≤ 9223372036854775807 := by
  have h : ∃ cs, v = .agg cs ∧ cs.size = P.cellsOf t ∧ Row.okWide P W r b0 t cs := by
    unfold Value.okWide at hv
    cases hd : P.underlying t with
    | none => rw [hd] at hu; cases hu
    | some d => rw [hd] at hu hv; cases d <;> first | exact hv | cases hu
  obtain ⟨cs, rfl, hs, ts', h1, _, h2⟩ := h
  have e : ts' = ts := by rw [hct] at h1; exact (Option.some.inj h1).symm
  subst e
  have key : ∀ (i : Nat) (v : Value), cs[i]? = some v → ∃ x : Int, v = Value.int .i64 x ∧ -9223372036854775808 ≤ x ∧ x ≤ 9223372036854775807 := by
    intro i v hv
    obtain ⟨u, hu1, hu2⟩ := h2 i v hv
    have hu3 := List.all_eq_true.1 hi u (List.mem_of_getElem? hu1)
    cases hd : P.underlying u with
    | none => rw [hd] at hu3; cases hu3
    | some d =>
      rw [hd] at hu3
      cases d with
      | int k =>
        cases k <;> simp at hu3
        unfold Cell.okWide at hu2
        rw [hd] at hu2
        cases v <;> simp [Cell.ok, hd] at hu2
        obtain ⟨rfl, h3, h4⟩ := hu2
        exact ⟨_, rfl, h3, h4⟩
      | _ => cases hu3
  have key2 : ∀ l : List Value, (∀ v ∈ l, ∃ x : Int, v = Value.int .i64 x ∧ -9223372036854775808 ≤ x ∧ x ≤ 9223372036854775807) → ∃ ns : List Int, l = ns.map (Value.int .i64) ∧ ∀ x ∈ ns, -9223372036854775808 ≤ x ∧ x ≤ 9223372036854775807 := by
    intro l
    induction l with
    | nil => exact fun _ => ⟨[], rfl, fun x hx => by cases hx⟩
    | cons v l ih =>
      intro h
      obtain ⟨x, rfl, hx⟩ := h v (by simp)
      obtain ⟨ns, rfl, hn⟩ := ih (fun v hv => h v (by simp [hv]))
      exact ⟨x :: ns, rfl, fun y hy => by rcases List.mem_cons.1 hy with rfl | hy; exact hx; exact hn y hy⟩
  obtain ⟨ns, h3, h4⟩ := key2 cs.toList (fun v hv => by
    obtain ⟨i, hi⟩ := List.mem_iff_getElem?.1 hv
    exact key i v (by simpa using hi))
  refine ⟨ns, ?_, ?_, h4⟩
  · rw [← hC, ← hs, ← Array.length_toList, h3]; simp
  · rw [← h3]
theorem open_ints2 {P : Program} {W : World} {r : Reach} {b0 : Nat} {t : TypeId} {v : Value} {ts : List TypeId} (hu : (match P.underlying t with | some (.struct _) => true | some (.array _ _) => true | _ => false) = true) (hC : P.cellsOf t = 2) (hct : P.cellTypes P.depth t = some ts)
    (hi : (ts.all fun u => match P.underlying u with | some (.int .i64) => true | _ => false) = true) (hv : Value.okWide P W r b0 t v) :
    ∃ x y : Int, v = .agg #[.int .i64 x, .int .i64 y] ∧ (-9223372036854775808 ≤ x ∧ x ≤ 9223372036854775807) ∧ (-9223372036854775808 ≤ y ∧ y ≤ 9223372036854775807) := by
  obtain ⟨ns, h1, h2, h3⟩ := open_ints hu hC hct hi hv
  match ns, h1 with
  | [x, y], _ => exact ⟨x, y, h2, h3 x (by simp), h3 y (by simp)⟩
theorem open_ints4 {P : Program} {W : World} {r : Reach} {b0 : Nat} {t : TypeId} {v : Value} {ts : List TypeId} (hu : (match P.underlying t with | some (.struct _) => true | some (.array _ _) => true | _ => false) = true) (hC : P.cellsOf t = 4) (hct : P.cellTypes P.depth t = some ts)
    (hi : (ts.all fun u => match P.underlying u with | some (.int .i64) => true | _ => false) = true) (hv : Value.okWide P W r b0 t v) :
    ∃ x y z u : Int, v = .agg #[.int .i64 x, .int .i64 y, .int .i64 z, .int .i64 u] ∧ (-9223372036854775808 ≤ x ∧ x ≤ 9223372036854775807) ∧ (-9223372036854775808 ≤ y ∧ y ≤ 9223372036854775807) ∧ (-9223372036854775808 ≤ z ∧ z ≤ 9223372036854775807) ∧ (-9223372036854775808 ≤ u ∧ u ≤ 9223372036854775807) := by
  obtain ⟨ns, h1, h2, h3⟩ := open_ints hu hC hct hi hv
  match ns, h1 with
  | [x, y, z, u], _ => exact ⟨x, y, z, u, h2, h3 x (by simp), h3 y (by simp), h3 z (by simp), h3 u (by simp)⟩
theorem open_i64 {P : Program} {W : World} {r : Reach} {b0 : Nat} {t : TypeId} {v : Value} (hu : P.underlying t = some (.int .i64)) (hv : Value.okWide P W r b0 t v) : ∃ x : Int, v = .int .i64 x ∧ (-9223372036854775808 ≤ x ∧ x ≤ 9223372036854775807) := by
  obtain ⟨n, rfl⟩ := okWide_int hu hv
  simp [Value.okWide, hu, Cell.okWide, Cell.ok] at hv
  exact ⟨n, rfl, hv.1, hv.2⟩
end Go.K
