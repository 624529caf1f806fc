/- A law's arguments, whatever their types: what they hold, read out of memory that nobody turns; and the frame of a law over it. -/
import Derived.Test.YtcnebanpnnblbaaDoorKF
import Derived.SizedLaws
namespace Go.K
open Go Go.RowKit Go.ChangeShapes Go.WideShapes Go.ChangeAt

/-- What cells of a type hold, where slices lie in what is read alone. -/
def Rd (P : Program) (β : Nat → Option Obj) : Nat → TypeId → List Value → Prop
  | 0, _, _ => False
  | n + 1, t, cs => match P.underlying t with
    | some .bool => ∃ b, cs = [.bool b]
    | some (.int k) => ∃ x, cs = [.int k x] ∧ (Lit.int k x).wf = true
    | some .string => ∃ s : ByteArray, cs = [.string s] ∧ s.size ≤ reachBytes
    | some (.slice e) => ∃ (p : Option Addr) (len cap : Nat) (xs : List Value), cs = [.slice p len cap] ∧ len ≤ cap ∧ cap * P.bytesOf e ≤ reachBytes ∧ cap ≤ maxLen ∧ (p = none → cap = 0) ∧ xs.length = len * P.cellsOf e ∧
        (0 < len * P.cellsOf e → ∃ b off, p = some ⟨b, off, none⟩ ∧ ∀ (j : Nat) (u : Value), xs[j]? = some u → Rc β b (off + j) u) ∧ ∀ i, i < len → Rd P β n e ((xs.drop (i * P.cellsOf e)).take (P.cellsOf e))
    | some (.struct fs) => cs.length = P.cellsOf t ∧ ∀ (i : Nat) (f : Field), fs[i]? = some f → Rd P β n f.type ((cs.drop f.offset).take (P.cellsOf f.type))
    | some (.array m e) => cs.length = P.cellsOf t ∧ ∀ i, i < m → Rd P β n e ((cs.drop (i * P.cellsOf e)).take (P.cellsOf e))
    | _ => True

theorem add_add (a : Addr) (m n : Nat) : (a.add m).add n = a.add (m + n) := by
  unfold Addr.add
  by_cases hm : m = 0
  · subst hm; simp
  · by_cases hn : n = 0
    · subst hn; simp
    · have : ¬ (m + n = 0) := by omega
      simp [hm, hn, Nat.add_assoc]

theorem weights_all {H : Type} {P : Program} {e : TypeId} : ∀ {ds : List (DataW H)} {i : Nat} {d : DataW H}, ds[i]? = some d → ∀ n ∈ d.weights P e, n ∈ DataW.weightsAll P e ds
  | [], i, d, h, n, hn => by simp at h
  | x :: r, 0, d, h, n, hn => by
    simp only [List.getElem?_cons_zero, Option.some.injEq] at h
    subst h
    simp only [DataW.weightsAll, List.mem_append]; exact .inl hn
  | x :: r, i + 1, d, h, n, hn => by
    simp only [List.getElem?_cons_succ] at h
    simp only [DataW.weightsAll, List.mem_append]; exact .inr (weights_all h n hn)

theorem rc_of_cell {w : World} {b off : Nat} {u : Value} (h : w.cell? ⟨b, off, none⟩ = some u) : Rc (fun b => w.heap[b]?) b off u := by
  unfold World.cell? at h
  split at h
  · rename_i c e fz hc
    simp at h
    exact ⟨c, e, fz, hc, h⟩
  · cases h

theorem rd_of_trod {H : Type} {enc : TypeId × Value → H} {P : Program} {w : World} {base : Nat} {held : Bool} : ∀ (fuel : Nat) (t : TypeId) (cs : List Value) (d : DataW H) (ps : List MemPlace),
    DataW.trod enc P w base (fun _ => true) held fuel t cs = some (d, ps) → (∀ n ∈ d.weights P t, n ≤ reachBytes) → Rd P (fun b => w.heap[b]?) fuel t cs
  | 0, t, cs, d, ps, h, _ => by simp [DataW.trod] at h
  | fuel + 1, t, cs, d, ps, h, hw => by
    unfold Rd
    split
    · rename_i hu
      obtain ⟨b, rfl, _⟩ := DataW.trod_bool hu h
      exact ⟨b, rfl⟩
    · rename_i k hu
      obtain ⟨n, rfl, _, hn⟩ := DataW.trod_int hu h
      exact ⟨n, rfl, hn⟩
    · rename_i hu
      obtain ⟨s, rfl, hx, _⟩ := DataW.trod_string hu h
      refine ⟨s, rfl, ?_⟩
      simp only [Prod.mk.injEq] at hx
      have := hw s.data.toList.length (by rw [hx.1]; simp [DataW.weights])
      simpa using this
    · rename_i e hu
      rcases DataW.trod_slice hu h with ⟨rfl, hx⟩ | ⟨a, len, cap, elems, rest, n, hf, rfl, hx, hb, hl, hm, hlen, hel, hsp, _⟩
      · exact ⟨none, 0, 0, [], rfl, Nat.le_refl _, by simp, by simp [maxLen], fun _ => rfl, by simp, fun h => by simp at h, fun i hi => by omega⟩
      · have hn : n = fuel := by omega
        subst hn
        obtain ⟨hrl, _⟩ := hsp rfl
        simp only [Prod.mk.injEq] at hx
        have hd := hx.1
        have hwd : d.weights P t = (elems.length + rest.length) * P.bytesOf e :: (DataW.weightsAll P e (elems.map (·.1)) ++ DataW.weightsAll P e (rest.map (·.1))) := by
          rw [hd]; simp [DataW.weights, hu]
        have each : ∀ i, i < len → ∃ vs y, w.cells? base (a.add (i * P.cellsOf e)) (P.cellsOf e) = some vs ∧ DataW.trod enc P w base (fun _ => true) held n e vs = some y ∧ elems[i]? = some y := fun i hi => by
          have h1 := hel i hi
          have h2 : elems[i]? = some elems[i] := List.getElem?_eq_getElem (by omega)
          rw [h2, Option.bind_eq_some_iff] at h1
          obtain ⟨vs, h3, h4⟩ := h1
          exact ⟨vs, _, h3, h4, h2⟩
        have cellq : ∀ q, q < len * P.cellsOf e → ∃ u, w.cell? (a.add q) = some u := fun q hq => by
          have hc0 : 0 < P.cellsOf e := Nat.pos_of_ne_zero (fun e0 => by rw [e0] at hq; simp at hq)
          have hi : q / P.cellsOf e < len := by rw [Nat.div_lt_iff_lt_mul hc0]; exact hq
          obtain ⟨vs, y, h1, _, _⟩ := each _ hi
          have h2 := (World.cells?_some h1).2.2 (q % P.cellsOf e) (Nat.mod_lt _ hc0)
          rw [add_add, Nat.div_add_mod'] at h2
          have h3 := (World.cells?_some h1).2.1
          rw [List.getElem?_eq_getElem (by rw [h3]; exact Nat.mod_lt _ hc0)] at h2
          exact ⟨_, h2⟩
        let xs : List Value := (List.range (len * P.cellsOf e)).map fun q => (w.cell? (a.add q)).getD undef
        have hxs : ∀ q, q < len * P.cellsOf e → w.cell? (a.add q) = xs[q]? := fun q hq => by
          obtain ⟨u, hu⟩ := cellq q hq
          simp [xs, hq, hu]
        have hxl : xs.length = len * P.cellsOf e := by simp [xs]
        refine ⟨some a, len, cap, xs, rfl, hl, ?_, hm, fun h => by simp at h, hxl, fun h0 => ?_, fun i hi => ?_⟩
        · have := hw _ (by rw [hwd]; exact List.mem_cons_self)
          rw [hlen, hrl] at this
          rwa [show len + (cap - len) = cap by omega] at this
        · obtain ⟨b, off, spot⟩ := a
          obtain ⟨u, hu⟩ := cellq 0 h0
          have hspot : spot = none := by simpa [Addr.add] using World.cell?_spot hu
          subst hspot
          refine ⟨b, off, rfl, fun j u hj => ?_⟩
          have hj' : j < len * P.cellsOf e := by rw [← hxl]; exact (List.getElem?_eq_some_iff.1 hj).1
          refine rc_of_cell ?_
          have := hxs j hj'
          rw [Addr.add_lit] at this
          rw [this, hj]
        · obtain ⟨vs, y, h1, h2, h3⟩ := each i hi
          have e1 : (xs.drop (i * P.cellsOf e)).take (P.cellsOf e) = vs := by
            obtain ⟨_, g2, g3⟩ := World.cells?_some h1
            apply List.ext_getElem?
            intro j
            by_cases hj : j < P.cellsOf e
            · rw [List.getElem?_take_of_lt hj, List.getElem?_drop, ← hxs _ (by
                have : (i + 1) * P.cellsOf e ≤ len * P.cellsOf e := Nat.mul_le_mul_right _ (by omega)
                rw [Nat.add_mul] at this; omega), ← add_add, g3 j hj]
            · rw [List.getElem?_eq_none (by simp; omega), List.getElem?_eq_none (by omega)]
          rw [e1]
          refine rd_of_trod n e vs y.1 y.2 h2 (fun m hm => hw m ?_)
          rw [hwd]
          exact List.mem_cons_of_mem _ (List.mem_append_left _ (weights_all (i := i) (by simp [h3]) m hm))
    · rename_i fs hu
      unfold DataW.trod at h
      rw [hu] at h
      split at h <;> simp_all
      obtain ⟨hl, xs, hp, hd, _⟩ := h
      intro i f hf
      have hy := mapM_some_get hp i f (by simpa using hf)
      have hlt : i < xs.length := by
        rw [mapM_some_length hp]
        simpa using (Array.getElem?_eq_some_iff.1 hf).1
      rw [List.getElem?_eq_getElem hlt] at hy
      refine rd_of_trod fuel f.type _ xs[i].1 xs[i].2 hy (fun m hm => hw m ?_)
      subst hd
      simp only [DataW.weights, hu]
      exact DataW.weights_mem_each (j := i) (t := f.type) (d := xs[i].1) (by simp [hf]) (by simp [hlt]) m hm
    · rename_i m e hu
      unfold DataW.trod at h
      simp only [hu] at h
      split at h
      · rename_i hl
        rw [Option.map_eq_some_iff] at h
        obtain ⟨xs, hp, hd⟩ := h
        simp only [Prod.mk.injEq] at hd
        obtain ⟨hd, _⟩ := hd
        refine ⟨hl, ?_⟩
        intro i hi
        have hy := mapM_some_get hp i i (by simp [hi])
        have hlt : i < xs.length := by
          rw [mapM_some_length hp]
          simpa using hi
        rw [List.getElem?_eq_getElem hlt] at hy
        refine rd_of_trod fuel e _ xs[i].1 xs[i].2 hy (fun m hm => hw m ?_)
        subst hd
        simp only [DataW.weights, hu]
        exact weights_all (i := i) (by simp [hlt]) m hm
      · cases h
    · trivial

def aggT (P : Program) (t : TypeId) : Bool := match P.underlying t with
  | some (.struct _) => true
  | some (.array _ _) => true
  | _ => false
/-- What a value of a type holds. -/
def RdV (P : Program) (β : Nat → Option Obj) (t : TypeId) (v : Value) : Prop := ∃ n cs, Rd P β n t cs ∧ ((aggT P t = true ∧ v = .agg cs.toArray) ∨ (aggT P t = false ∧ cs = [v]))
def RdVs (P : Program) (β : Nat → Option Obj) : List TypeId → List Value → Prop
  | [], [] => True
  | t :: ts, v :: vs => RdV P β t v ∧ RdVs P β ts vs
  | _, _ => False

theorem rdV_of {H : Type} {enc : TypeId × Value → H} {P : Program} {w : World} {base b0 : Nat} {held : Bool} {r : Reach} {t : TypeId} {v : Value} {d : DataW H} {ps : List MemPlace} (hv : Value.okWide P w r b0 t v) (hd : DataW.Trod enc P w base (fun _ => true) held t v d ps)
    (hw : ∀ n ∈ d.weights P t, n ≤ reachBytes) (hk : ∀ q, P.underlying t = some (.interface q) → False) : RdV P (fun b => w.heap[b]?) t v := by
  obtain ⟨fuel, hf⟩ := hd
  refine ⟨fuel, _, rd_of_trod fuel t _ d ps hf hw, ?_⟩
  unfold Value.okWide at hv
  unfold aggT
  cases hu : P.underlying t with
  | none => rw [hu] at hv; simp [Cell.okWide, Cell.ok, hu] at hv
  | some de =>
    rw [hu] at hv
    cases de with
    | struct fs => obtain ⟨cs, rfl, _, _⟩ := hv; exact .inl ⟨rfl, by simp [Value.cells]⟩
    | array m e => obtain ⟨cs, rfl, _, _⟩ := hv; exact .inl ⟨rfl, by simp [Value.cells]⟩
    | interface q => exact (hk q hu).elim
    | _ =>
      refine .inr ⟨rfl, ?_⟩
      cases v <;> first | rfl | (simp [Cell.okWide, Cell.ok, hu] at hv)

theorem rdVs_of {H : Type} {enc : TypeId × Value → H} {P : Program} {w : World} {r : Reach} {b0 : Nat} {held : Bool} : ∀ {ts : List TypeId} {vs : List Value} {ds : List (DataW H)} {ps : List MemPlace}, (ts.all fun t => match P.underlying t with | some (.interface _) => false | _ => true) = true →
    (∀ (j : Nat) (t : TypeId) (v : Value), ts[j]? = some t → vs[j]? = some v → Value.okWide P w r b0 t v) → DataW.TrodAll enc P w 0 (fun _ => true) held ts vs ds ps → (∀ n ∈ DataW.weightsEach P ts ds, n ≤ reachBytes) → RdVs P (fun b => w.heap[b]?) ts vs
  | [], [], [], ps, _, _, _, _ => trivial
  | t :: ts, v :: vs, d :: ds, ps, ht, hv, h, hw => by
    obtain ⟨p, q, h1, h2, rfl⟩ := h
    simp only [List.all_cons, Bool.and_eq_true] at ht
    refine ⟨rdV_of (hv 0 t v rfl rfl) h1 (fun n hn => hw n (by simp [DataW.weightsEach, hn])) (fun q hq => by rw [hq] at ht; simp at ht), ?_⟩
    exact rdVs_of ht.2 (fun j t v ht hv' => hv (j + 1) t v (by simpa using ht) (by simpa using hv')) h2 (fun n hn => hw n (by simp [DataW.weightsEach, hn]))
  | [], [], _ :: _, _, _, _, h, _ => h.elim
  | [], _ :: _, _, _, _, _, h, _ => by cases ‹List (DataW H)› <;> exact h.elim
  | _ :: _, [], _, _, _, _, h, _ => by cases ‹List (DataW H)› <;> exact h.elim
  | _ :: _, _ :: _, [], _, _, _, h, _ => h.elim

/-- A law: called with whatever values that can be read, it tells true, and turns nothing that was there. -/
theorem law_lift {H : Type} {enc : TypeId × Value → H} {C : Checked} {os : Os} {f : FuncId} {fn : Func} {s : ChangeSpec} {tb : TypeId} (own : ownKnob C.prog.godebug = none) (started : os.Started) (noInit : C.prog.inits.idxOf? f = none) (hfn : C.prog.funcs[f]? = some fn)
    (witness : ∃ (w : World) (tape : Tape) (i : Input), w.os = os ∧ (w.forCall tape i).Shaped C.prog ∧ i.vars = [] ∧ Input.okWide C.prog (w.forCall tape i) .any w.heap.size f i ∧
      s.pre6 enc C.prog fn [] false (w.forCall tape i).memory i.args ∧ ({} : Assume).holds C.prog (lone (Frame.enter C.prog f i.args .normal) [] (w.forCall tape i)))
    (hl : laidOutB C.prog = true) (hv : s.vars = []) (hts : (fn.params.toList.all fun t => C.prog.readableRec t && decide (t < C.prog.types.size)) = true) (hti : (fn.params.toList.all fun t => match C.prog.underlying t with | some (.interface _) => false | _ => true) = true)
    (hr : fn.resultTypes = #[tb]) (hbt : C.prog.underlying tb = some .bool) (hfn2 : ∀ (ds : List (DataW H)), ds.length = fn.params.toList.length → s.fn H ds = { results := [.lit (.bool true)], args := ds })
    (law : ∀ (β : Nat → Option Obj) (vs : List Value), RdVs C.prog β fn.params.toList vs → PureB C.prog f vs.toArray β (.bool true)) :
    ReturnsInHanded {} C os f .any (s.pre6 enc C.prog fn [] false) (s.post enc C.prog fn false true false false) := by
  refine returnsInHanded_of_change_sized own started noInit hfn witness ?_
  intro W base args ds gs before hval hW _ hz _
  have hW' := hW
  obtain ⟨p, q, hA, hV, rfl, hfz, hnd⟩ := hW
  have hgs : gs = [] := by
    rw [hv] at hV
    cases gs with
    | nil => rfl
    | cons _ _ => exact hV.elim
  subst hgs
  have hlen : ds.length = fn.params.toList.length := by
    have : ∀ {ts : List TypeId} {vs : List Value} {ds : List (DataW H)} {ps : List MemPlace}, DataW.TrodAll enc C.prog W 0 (fun _ => true) true ts vs ds ps → ds.length = ts.length := by
      intro ts
      induction ts with
      | nil => intro vs ds ps h; cases vs <;> cases ds <;> first | rfl | exact h.elim
      | cons t ts ih =>
        intro vs ds ps h
        cases vs <;> cases ds <;> first | exact h.elim | (obtain ⟨_, _, _, h2, _⟩ := h; simp [ih h2])
    exact this hA
  have hz' : ∀ n ∈ DataW.weightsEach C.prog fn.params.toList ds, n ≤ reachBytes := by
    intro n hn
    have key : ∀ {ts ts' : List TypeId} {ds : List (DataW H)}, ds.length = ts.length → ∀ n ∈ DataW.weightsEach C.prog ts ds, n ∈ DataW.weightsEach C.prog (ts ++ ts') (ds ++ []) := by
      intro ts
      induction ts with
      | nil => intro ts' ds h n hn; cases ds <;> simp [DataW.weightsEach] at hn
      | cons t ts ih =>
        intro ts' ds h n hn
        cases ds with
        | nil => simp at h
        | cons d ds =>
          simp only [DataW.weightsEach, List.mem_append] at hn
          simp only [List.cons_append, DataW.weightsEach, List.mem_append]
          exact hn.imp id (fun hn => ih (by simpa using h) n hn)
    have := List.all_eq_true.1 hz n (key hlen n hn)
    simpa using this
  have hrd := rdVs_of (held := true) hti (fun j t v ht hv' => hval j t v (by simpa using ht) (by simpa using hv')) hA hz'
  have hp := law (fun b => W.heap[b]?) args.toList hrd
  refine ((hp.run W (fun b o hb => ⟨hb, by simp⟩))).mono fun e W' ⟨he, hb⟩ => ?_
  subst he
  exact ⟨_, rfl, law_frame hl hW' hv hts hr hbt (by rw [List.append_nil]; exact hfn2 ds hlen) hb⟩

/-! ### Opening: the cells of a value, by the types of its leaves -/
def lvsF (P : Program) (rec : TypeId → Option (List TypeId)) : Nat → List Field → Option (List TypeId)
  | _, [] => some []
  | off, f :: fs => match rec f.type, lvsF P rec (off + P.cellsOf f.type) fs with
    | some l, some r => if f.offset = off ∧ l.length = P.cellsOf f.type then some (l ++ r) else none
    | _, _ => none
def lvs (P : Program) : Nat → TypeId → Option (List TypeId)
  | 0, _ => none
  | n + 1, t => match P.underlying t with
    | some (.struct fs) => match lvsF P (lvs P n) 0 fs.toList with
      | some ts => if ts.length = P.cellsOf t then some ts else none
      | none => none
    | some (.array m e) => match lvs P n e with
      | some l => if l.length = P.cellsOf e ∧ m * P.cellsOf e = P.cellsOf t then some (List.replicate m l).flatten else none
      | none => none
    | some _ => some [t]
    | none => none

def RdL (P : Program) (β : Nat → Option Obj) : List TypeId → List Value → Prop
  | [], [] => True
  | t :: ts, c :: cs => (∃ n, Rd P β n t [c]) ∧ RdL P β ts cs
  | _, _ => False
theorem RdL.append {P : Program} {β : Nat → Option Obj} : ∀ {ts ts' : List TypeId} {cs cs' : List Value}, RdL P β ts cs → RdL P β ts' cs' → RdL P β (ts ++ ts') (cs ++ cs')
  | [], _, [], _, _, h => h
  | _ :: _, _, _ :: _, _, h, h' => ⟨h.1, RdL.append h.2 h'⟩
  | [], _, _ :: _, _, h, _ => h.elim
  | _ :: _, _, [], _, h, _ => h.elim
theorem RdL.length {P : Program} {β : Nat → Option Obj} : ∀ {ts : List TypeId} {cs : List Value}, RdL P β ts cs → cs.length = ts.length
  | [], [], _ => rfl
  | _ :: _, _ :: _, h => by simp [RdL.length h.2]
  | [], _ :: _, h => h.elim
  | _ :: _, [], h => h.elim

theorem rd_leaves {P : Program} {β : Nat → Option Obj} : ∀ (k : Nat) (t : TypeId) (ts : List TypeId) (n : Nat) (cs : List Value), lvs P k t = some ts → (aggT P t = false → ∃ c, cs = [c]) → Rd P β n t cs → RdL P β ts cs
  | 0, _, _, _, _, h, _, _ => by simp [lvs] at h
  | k + 1, t, ts, 0, cs, _, _, hr => by simp [Rd] at hr
  | k + 1, t, ts, n + 1, cs, h, hc, hr => by
    have hr0 := hr
    unfold lvs at h
    unfold Rd at hr
    split at h
    · rename_i fs hu
      rw [hu] at hr
      simp only at hr
      obtain ⟨hl, hf⟩ := hr
      split at h
      · rename_i ts' hts
        split at h
        · rename_i hlen
          simp only [Option.some.injEq] at h
          subst h
          have key : ∀ (l : List Field) (off i : Nat) (us : List TypeId), lvsF P (lvs P k) off l = some us → (∀ j f, l[j]? = some f → fs[i + j]? = some f) → off + us.length = cs.length → RdL P β us (cs.drop off) := by
            intro l
            induction l with
            | nil =>
              intro off i us h1 _ h3
              simp only [lvsF, Option.some.injEq] at h1
              subst h1
              simp only [List.length_nil, Nat.add_zero] at h3
              rw [h3, List.drop_length]; trivial
            | cons f l ih =>
              intro off i us h1 h2 h3
              simp only [lvsF] at h1
              split at h1
              · rename_i a b h4 h5
                split at h1
                · rename_i h6
                  simp only [Option.some.injEq] at h1
                  subst h1
                  have h7 := hf i f (by have := h2 0 f rfl; simpa using this)
                  have h8 := rd_leaves k f.type a n _ h4 (fun ha => by
                    have : a.length = 1 := by
                      unfold aggT at ha
                      cases k with
                      | zero => simp [lvs] at h4
                      | succ k =>
                        unfold lvs at h4
                        split at h4
                        · rename_i hu'; rw [hu'] at ha; cases ha
                        · rename_i hu'; rw [hu'] at ha; cases ha
                        · simp only [Option.some.injEq] at h4; subst h4; rfl
                        · cases h4
                    have h9 : ((cs.drop f.offset).take (P.cellsOf f.type)).length = 1 := by
                      rw [List.length_take, List.length_drop, ← h6.2, h6.1]
                      simp only [List.length_append] at h3
                      omega
                    exact List.length_eq_one_iff.1 h9) h7
                  have h9 := ih (off + P.cellsOf f.type) (i + 1) b h5 (fun j g hj => by have := h2 (j + 1) g (by simpa using hj); rwa [show i + (j + 1) = i + 1 + j by omega] at this) (by simp only [List.length_append] at h3; omega)
                  have h10 := RdL.append h8 h9
                  have e : (cs.drop f.offset).take (P.cellsOf f.type) ++ cs.drop (off + P.cellsOf f.type) = cs.drop off := by
                    rw [h6.1, ← List.drop_drop, List.take_append_drop]
                  rw [e] at h10
                  exact h10
                · cases h1
              · cases h1
          have := key fs.toList 0 0 ts' hts (fun j f hj => by simpa using hj) (by omega)
          simpa using this
        · cases h
      · cases h
    · rename_i m e hu
      rw [hu] at hr
      simp only at hr
      obtain ⟨hl, hf⟩ := hr
      split at h
      · rename_i l hle
        split at h
        · rename_i h6
          simp only [Option.some.injEq] at h
          subst h
          have key : ∀ q, q ≤ m → RdL P β (List.replicate q l).flatten (cs.drop ((m - q) * P.cellsOf e)) := by
            intro q
            induction q with
            | zero => intro _; rw [Nat.sub_zero, h6.2, ← hl, List.drop_length]; trivial
            | succ q ih =>
              intro hq
              rw [List.replicate_succ, List.flatten_cons]
              have h7 := hf (m - (q + 1)) (by omega)
              have hmul : (m - (q + 1)) * P.cellsOf e + P.cellsOf e ≤ cs.length := by
                rw [hl, ← h6.2, ← Nat.succ_mul]
                exact Nat.mul_le_mul_right _ (by omega)
              have h8 := rd_leaves k e l n _ hle (fun ha => by
                have : l.length = 1 := by
                  unfold aggT at ha
                  cases k with
                  | zero => simp [lvs] at hle
                  | succ k =>
                    unfold lvs at hle
                    split at hle
                    · rename_i hu'; rw [hu'] at ha; cases ha
                    · rename_i hu'; rw [hu'] at ha; cases ha
                    · simp only [Option.some.injEq] at hle; subst hle; rfl
                    · cases hle
                have h9 : ((cs.drop ((m - (q + 1)) * P.cellsOf e)).take (P.cellsOf e)).length = 1 := by
                  rw [List.length_take, List.length_drop]
                  omega
                exact List.length_eq_one_iff.1 h9) h7
              have h9 := ih (by omega)
              have h10 := RdL.append h8 h9
              have e1 : (m - q) * P.cellsOf e = (m - (q + 1)) * P.cellsOf e + P.cellsOf e := by
                rw [← Nat.succ_mul]; congr 1; omega
              rw [e1, ← List.drop_drop, List.take_append_drop] at h10
              exact h10
          have := key m (Nat.le_refl _)
          simpa using this
        · cases h
      · cases h
    · rename_i d hn1 hn2 hu
      simp only [Option.some.injEq] at h
      subst h
      obtain ⟨c, rfl⟩ := hc (by unfold aggT; rw [hu]; cases d <;> first | rfl | exact (hn1 _ rfl).elim | exact (hn2 _ _ rfl).elim)
      exact ⟨⟨n + 1, hr0⟩, trivial⟩
    · cases h

theorem rdV_leaves {P : Program} {β : Nat → Option Obj} {t : TypeId} {v : Value} {k : Nat} {ts : List TypeId} (h : RdV P β t v) (hl : lvs P k t = some ts) : ∃ cs, RdL P β ts cs ∧ ((aggT P t = true ∧ v = .agg cs.toArray) ∨ (aggT P t = false ∧ cs = [v])) := by
  obtain ⟨n, cs, h1, h2⟩ := h
  refine ⟨cs, rd_leaves k t ts n cs hl (fun ha => ?_) h1, h2⟩
  rcases h2 with ⟨h3, _⟩ | ⟨_, rfl⟩
  · rw [ha] at h3; cases h3
  · exact ⟨v, rfl⟩

theorem wf_i64 {x : Int} (h : (Lit.int .i64 x).wf = true) : -9223372036854775808 ≤ x ∧ x ≤ 9223372036854775807 := by
  simp only [Lit.wf, Bool.and_eq_true, decide_eq_true_eq] at h
  have e1 : IntKind.i64.min = -9223372036854775808 := by decide
  have e2 : IntKind.i64.max = 9223372036854775807 := by decide
  omega
theorem rd_i64 {P : Program} {β : Nat → Option Obj} {t : TypeId} {c : Value} (hu : P.underlying t = some (.int .i64)) (h : ∃ n, Rd P β n t [c]) : ∃ x : Int, c = .int .i64 x ∧ (-9223372036854775808 ≤ x ∧ x ≤ 9223372036854775807) := by
  obtain ⟨n, h⟩ := h
  cases n with
  | zero => simp [Rd] at h
  | succ n =>
    unfold Rd at h
    rw [hu] at h
    obtain ⟨x, h1, h2⟩ := h
    simp only [List.cons.injEq, and_true] at h1
    exact ⟨x, h1, wf_i64 h2⟩
theorem rd_int {P : Program} {β : Nat → Option Obj} {t : TypeId} {c : Value} {k : IntKind} (hu : P.underlying t = some (.int k)) (h : ∃ n, Rd P β n t [c]) : ∃ x : Int, c = .int k x ∧ (Lit.int k x).wf = true := by
  obtain ⟨n, h⟩ := h
  cases n with
  | zero => simp [Rd] at h
  | succ n =>
    unfold Rd at h
    rw [hu] at h
    obtain ⟨x, h1, h2⟩ := h
    simp only [List.cons.injEq, and_true] at h1
    exact ⟨x, h1, h2⟩
theorem rd_bool {P : Program} {β : Nat → Option Obj} {t : TypeId} {c : Value} (hu : P.underlying t = some .bool) (h : ∃ n, Rd P β n t [c]) : ∃ b, c = .bool b := by
  obtain ⟨n, h⟩ := h
  cases n with
  | zero => simp [Rd] at h
  | succ n =>
    unfold Rd at h
    rw [hu] at h
    obtain ⟨x, h1⟩ := h
    simp only [List.cons.injEq, and_true] at h1
    exact ⟨x, h1⟩
theorem rd_string {P : Program} {β : Nat → Option Obj} {t : TypeId} {c : Value} (hu : P.underlying t = some .string) (h : ∃ n, Rd P β n t [c]) : ∃ s : ByteArray, c = .string s ∧ s.size ≤ reachBytes := by
  obtain ⟨n, h⟩ := h
  cases n with
  | zero => simp [Rd] at h
  | succ n =>
    unfold Rd at h
    rw [hu] at h
    obtain ⟨x, h1, h2⟩ := h
    simp only [List.cons.injEq, and_true] at h1
    exact ⟨x, h1, h2⟩

/-- A slice that was handed in: m elements of n cells each, xs in all; bytes each element. -/
def SlR (β : Nat → Option Obj) (n m bytes : Nat) (xs : List Value) (p : Option Addr) (c : Nat) : Prop :=
  m ≤ c ∧ c * bytes ≤ 140737488351232 ∧ c ≤ 9223372036854775807 ∧ (p = none → c = 0) ∧ xs.length = m * n ∧ (0 < m * n → ∃ b off, p = some ⟨b, off, none⟩ ∧ ∀ (j : Nat) (u : Value), xs[j]? = some u → Rc β b (off + j) u)
theorem rd_slice {P : Program} {β : Nat → Option Obj} {t e : TypeId} {c : Value} {k : Nat} {ts : List TypeId} (hu : P.underlying t = some (.slice e)) (hl : lvs P k e = some ts) (hn : ts.length = P.cellsOf e) (h : ∃ n, Rd P β n t [c]) :
    ∃ p m cap xs, c = .slice p m cap ∧ SlR β ts.length m (P.bytesOf e) xs p cap ∧ ∀ i, i < m → RdL P β ts ((xs.drop (i * ts.length)).take ts.length) := by
  obtain ⟨n, h⟩ := h
  cases n with
  | zero => simp [Rd] at h
  | succ n =>
    unfold Rd at h
    rw [hu] at h
    obtain ⟨p, m, cap, xs, h1, h2, h3, h4, h5, h6, h7, h8⟩ := h
    simp only [List.cons.injEq, and_true] at h1
    refine ⟨p, m, cap, xs, h1, ⟨h2, h3, h4, h5, by rw [hn]; exact h6, by rw [hn]; exact h7⟩, fun i hi => ?_⟩
    rw [hn]
    refine rd_leaves k e ts n _ hl (fun ha => ?_) (h8 i hi)
    have : ts.length = 1 := by
      unfold aggT at ha
      cases k with
      | zero => simp [lvs] at hl
      | succ k =>
        unfold lvs at hl
        split at hl
        · rename_i hu'; rw [hu'] at ha; cases ha
        · rename_i hu'; rw [hu'] at ha; cases ha
        · simp only [Option.some.injEq] at hl; subst hl; rfl
        · cases hl
    have h9 : ((xs.drop (i * P.cellsOf e)).take (P.cellsOf e)).length = 1 := by
      have : (i + 1) * P.cellsOf e ≤ m * P.cellsOf e := Nat.mul_le_mul_right _ (by omega)
      rw [Nat.add_mul] at this
      rw [List.length_take, List.length_drop]
      omega
    exact List.length_eq_one_iff.1 h9

theorem RdL.one {P : Program} {β : Nat → Option Obj} {t : TypeId} {cs : List Value} (h : RdL P β [t] cs) : ∃ c, cs = [c] ∧ ∃ n, Rd P β n t [c] := by
  match cs, h with
  | [c], ⟨h, _⟩ => exact ⟨c, rfl, h⟩
theorem RdL.cons {P : Program} {β : Nat → Option Obj} {t : TypeId} {ts : List TypeId} {cs : List Value} (h : RdL P β (t :: ts) cs) : ∃ c r, cs = c :: r ∧ (∃ n, Rd P β n t [c]) ∧ RdL P β ts r := by
  match cs, h with
  | c :: r, ⟨h, h'⟩ => exact ⟨c, r, rfl, h, h'⟩
theorem RdL.nil {P : Program} {β : Nat → Option Obj} {cs : List Value} (h : RdL P β [] cs) : cs = [] := by
  match cs, h with
  | [], _ => rfl
theorem RdVs.cons {P : Program} {β : Nat → Option Obj} {t : TypeId} {ts : List TypeId} {vs : List Value} (h : RdVs P β (t :: ts) vs) : ∃ v r, vs = v :: r ∧ RdV P β t v ∧ RdVs P β ts r := by
  match vs, h with
  | v :: r, ⟨h, h'⟩ => exact ⟨v, r, rfl, h, h'⟩
theorem RdVs.nil {P : Program} {β : Nat → Option Obj} {vs : List Value} (h : RdVs P β [] vs) : vs = [] := by
  match vs, h with
  | [], _ => rfl
theorem rdV_one {P : Program} {β : Nat → Option Obj} {t : TypeId} {v : Value} (h : RdV P β t v) (ha : aggT P t = false) : ∃ n, Rd P β n t [v] := by
  obtain ⟨n, cs, h1, h2⟩ := h
  rcases h2 with ⟨h3, _⟩ | ⟨_, rfl⟩
  · rw [ha] at h3; cases h3
  · exact ⟨n, h1⟩
theorem rdV_agg {P : Program} {β : Nat → Option Obj} {t : TypeId} {v : Value} {k : Nat} {ts : List TypeId} (h : RdV P β t v) (ha : aggT P t = true) (hl : lvs P k t = some ts) : ∃ cs, v = .agg cs.toArray ∧ RdL P β ts cs := by
  obtain ⟨cs, h1, h2⟩ := rdV_leaves h hl
  rcases h2 with ⟨_, h3⟩ | ⟨h3, _⟩
  · exact ⟨cs, h3, h1⟩
  · rw [ha] at h3; cases h3
/-- Elements that are whole numbers, a cell each. -/
theorem ints_of {P : Program} {β : Nat → Option Obj} {t : TypeId} {k : IntKind} (hu : P.underlying t = some (.int k)) : ∀ {m : Nat} {xs : List Value}, xs.length = m → (∀ i, i < m → RdL P β [t] ((xs.drop i).take 1)) → ∃ ns : List Int, xs = ns.map (.int k) ∧ ∀ x ∈ ns, (Lit.int k x).wf = true
  | 0, xs, hl, _ => ⟨[], by simpa using hl, fun x hx => by cases hx⟩
  | m + 1, xs, hl, h => by
    match xs, hl with
    | x :: r, hl =>
      obtain ⟨c, h1, h2⟩ := (h 0 (by omega)).one
      simp only [List.drop_zero, List.take_succ_cons, List.take_zero, List.cons.injEq, and_true] at h1
      subst h1
      obtain ⟨a, rfl, ha⟩ := rd_int hu h2
      obtain ⟨ns, rfl, hns⟩ := ints_of hu (m := m) (xs := r) (by simpa using hl) (fun i hi => by have := h (i + 1) (by omega); simpa using this)
      exact ⟨a :: ns, rfl, fun y hy => by rcases List.mem_cons.1 hy with rfl | hy; exact ha; exact hns y hy⟩
end Go.K
