/- Laws whose row lists variables of packages: what they hold when the call begins. -/
import Derived.Test.YtcnebanpnnblbaaDoorKG
import Derived.LaidByTextLater
import Derived.LaidMore
import Derived.OpenShut
import Derived.FnData
import Derived.Stop.Joined
namespace Go.K
open Go Go.Proofs Go.ChangeShapes Go.WideShapes Go.ChangeAt Go.RowKit

/-- A table of bytes in a variable. -/
def Tab8 (β : Nat → Option Obj) (g : Nat) (l : List Nat) : Prop := ∀ (j : Nat) (v : Nat), l[j]? = some v → Rc β g j (.int .u8 (v : Int))
theorem tab8_of {P : Program} {W : World} {name : String} {g t e n : Nat} {l : List Nat} (hg : P.globalNamed name = some g) (hty : (P.globals[g]?).map (·.type) = some t) (hu : P.underlying t = some (.array n e)) (hue : P.underlying e = some (.int .u8)) (hc : P.cellsOf e = 1)
    (hn : l.length = n) {data : DataW Unit} (hd : data = .agg (l.map fun x : Nat => .lit (.int .u8 (x : Int)))) (hp : ([(name, data)].all fun x => x.2.handleName?.isNone) = true) (h : laidMetH P [(name, data)] W) : Tab8 (fun b => W.heap[b]?) g l := by
  rw [MakeChecks.laidMetH_plain _ _ _ hp] at h
  obtain ⟨ps, ⟨g0, t0, cs0, f0, p0, q0, hg0, ht0, hv0, hd0, _⟩, _⟩ := h
  obtain rfl := Option.some.inj (hg.symm.trans hg0)
  obtain rfl := Option.some.inj (hty.symm.trans ht0)
  obtain ⟨xs, m1, _, hx1, hlen, hn3, hel⟩ := DataW.trod_array hu hd0
  rw [hd] at hx1
  simp only [Prod.mk.injEq, DataW.agg.injEq] at hx1
  intro j v hj
  have hjl := (List.getElem?_eq_some_iff.1 hj).1
  have h1 := hel j (by omega)
  rw [hc, Nat.mul_one] at h1
  obtain ⟨x, hx⟩ : ∃ x, xs[j]? = some x := ⟨_, List.getElem?_eq_getElem (by omega)⟩
  rw [hx] at h1
  obtain ⟨k, e1, e2, _⟩ := DataW.trod_int hue h1
  have h2 : (xs.map (·.1))[j]? = some (.lit (.int .u8 (v : Int))) := by
    rw [← hx1.1, List.getElem?_map, hj]; rfl
  rw [List.getElem?_map, hx, e2] at h2
  simp only [Option.map_some, Option.some.injEq, DataW.lit.injEq, Lit.int.injEq, true_and] at h2
  subst h2
  have h3 := World.var?_cell hg hv0 j
  have h4 : cs0[j]? = some (.int .u8 (v : Int)) := by
    have : (cs0.toList.drop j)[0]? = some (.int .u8 (v : Int)) := by
      have h5 : ((cs0.toList.drop j).take 1)[0]? = some (.int .u8 (v : Int)) := by rw [e1]; rfl
      rwa [List.getElem?_take_of_lt (by decide)] at h5
    rw [List.getElem?_drop, Nat.add_zero] at this
    simpa using this
  rw [h4] at h3
  exact rc_of_cell h3
/-- A law beside listed variables. -/
theorem law_liftL {H : Type} {enc : TypeId × Value → H} {C : Checked} {os : Os} {f : FuncId} {fn : Func} {s : ChangeSpec} {tb : TypeId} {laid : List (String × DataW Unit)} {Tb : (Nat → Option Obj) → Prop} (own : ownKnob C.prog.godebug = none) (started : os.Started) (noInit : C.prog.inits.idxOf? f = none) (hfn : C.prog.funcs[f]? = some fn)
    (witness : ∃ (w : World) (tape : Tape) (i : Input), w.os = os ∧ (w.forCall tape i).Shaped C.prog ∧ i.vars = [] ∧ Input.okWide C.prog (w.forCall tape i) .any w.heap.size f i ∧
      ((s.pre enc C.prog fn [] false (w.forCall tape i).memory i.args ∧ laidMetH C.prog laid (w.forCall tape i).memory) ∧ sizedMet enc C.prog fn (OpenSpec.ofChange s) false (w.forCall tape i).memory i.args) ∧ ({} : Assume).holds C.prog (lone (Frame.enter C.prog f i.args .normal) [] (w.forCall tape i)))
    (hl : laidOutB C.prog = true) (hv : s.vars = []) (hts : (fn.params.toList.all fun t => C.prog.readableRec t && decide (t < C.prog.types.size)) = true) (hti : (fn.params.toList.all fun t => match C.prog.underlying t with | some (.interface _) => false | _ => true) = true)
    (hr : fn.resultTypes = #[tb]) (hbt : C.prog.underlying tb = some .bool) (hfn2 : ∀ (ds : List (DataW H)), ds.length = fn.params.toList.length → s.fn H ds = { results := [.lit (.bool true)], args := ds })
    (htab : ∀ W, laidMetH C.prog laid W → Tb (fun b => W.heap[b]?))
    (law : ∀ (β : Nat → Option Obj) (vs : List Value), RdVs C.prog β fn.params.toList vs → Tb β → PureB C.prog f vs.toArray β (.bool true)) :
    ReturnsInHanded {} C os f .any (fun w args => (s.pre enc C.prog fn [] false w args ∧ laidMetH C.prog laid w) ∧ sizedMet enc C.prog fn (OpenSpec.ofChange s) false w args) (s.post enc C.prog fn false true false false) := by
  refine returnsInHanded_of_change_and (X := fun w _ => laidMetH C.prog laid w) (fun _ _ _ hh h => h.of_heap hh) own started noInit hfn witness ?_
  intro W base args ds gs before hval hW _ hz hL _
  have hW' := hW
  obtain ⟨p, q, hA, hV, rfl, hfz, hnd⟩ := hW
  have hgs : gs = [] := by
    rw [hv] at hV
    cases gs with
    | nil => rfl
    | cons _ _ => exact hV.elim
  subst hgs
  have hlen : ds.length = fn.params.toList.length := by
    have : ∀ {ts : List TypeId} {vs : List Value} {ds : List (DataW H)} {ps : List MemPlace}, DataW.TrodAll enc C.prog W 0 (fun _ => true) true ts vs ds ps → ds.length = ts.length := by
      intro ts
      induction ts with
      | nil => intro vs ds ps h; cases vs <;> cases ds <;> first | rfl | exact h.elim
      | cons t ts ih =>
        intro vs ds ps h
        cases vs <;> cases ds <;> first | exact h.elim | (obtain ⟨_, _, _, h2, _⟩ := h; simp [ih h2])
    exact this hA
  have hz' : ∀ n ∈ DataW.weightsEach C.prog fn.params.toList ds, n ≤ reachBytes := by
    intro n hn
    have key : ∀ {ts ts' : List TypeId} {ds : List (DataW H)}, ds.length = ts.length → ∀ n ∈ DataW.weightsEach C.prog ts ds, n ∈ DataW.weightsEach C.prog (ts ++ ts') (ds ++ []) := by
      intro ts
      induction ts with
      | nil => intro ts' ds h n hn; cases ds <;> simp [DataW.weightsEach] at hn
      | cons t ts ih =>
        intro ts' ds h n hn
        cases ds with
        | nil => simp at h
        | cons d ds =>
          simp only [DataW.weightsEach, List.mem_append] at hn
          simp only [List.cons_append, DataW.weightsEach, List.mem_append]
          exact hn.imp id (fun hn => ih (by simpa using h) n hn)
    have := List.all_eq_true.1 hz n (key hlen n hn)
    simpa using this
  have hrd := rdVs_of (held := true) hti (fun j t v ht hv' => hval j t v (by simpa using ht) (by simpa using hv')) hA hz'
  have hp := law (fun b => W.heap[b]?) args.toList hrd (htab W hL)
  refine ((hp.run W (fun b o hb => ⟨hb, by simp⟩))).mono fun e W' ⟨he, hb⟩ => ?_
  subst he
  exact ⟨_, rfl, law_frame hl hW' hv hts hr hbt (by rw [List.append_nil]; exact hfn2 ds hlen) hb⟩
end Go.K
