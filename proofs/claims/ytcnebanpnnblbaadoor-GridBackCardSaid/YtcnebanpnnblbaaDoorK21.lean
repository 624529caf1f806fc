/- The program logic, twenty-first part: a statement whose order is open, with two effects that are not ordered: fresh memory, and a block that is allocated. -/
import Derived.Test.YtcnebanpnnblbaaDoorK18
namespace Go.K
open Go Go.RowKit

theorem wanted_none {o : Oper} {y : Nat → Option Bool} (h : o.guard = none) : Region.wanted o y = true := by unfold Region.wanted; rw [h]
/-- Operations that differ in what is ahead of them alone, where it has been carried out. -/
structure Alike (L : Array Bool) (ops ops' : List Oper) : Prop where
  len : ops'.length = ops.length
  at_ : ∀ (i : Nat) (o : Oper), ops[i]? = some o → L.getD i false = false → o.guard = none ∧ ∃ o', ops'[i]? = some o' ∧ (∃ af, o' = { o with after := af }) ∧ (∀ j ∈ depsOf o, j ∈ depsOf o') ∧ (∀ j ∈ depsOf o', j ∈ depsOf o ∨ L.getD j false = true)
theorem Alike.set {L : Array Bool} {ops ops' : List Oper} {i : Nat} (h : Alike L ops ops') (hi : i < L.size) : Alike (L.setIfInBounds i true) ops ops' :=
  ⟨h.len, fun k o ho hl => by
    have hl' : L.getD k false = false := by
      rw [getD_set hi] at hl
      split at hl
      · cases hl
      · exact hl
    obtain ⟨h1, o', h2, h3, h4, h5⟩ := h.at_ k o ho hl'
    refine ⟨h1, o', h2, h3, h4, fun j hj => ?_⟩
    rcases h5 j hj with h6 | h6
    · exact .inl h6
    · refine .inr ?_
      rw [getD_set hi]
      split
      · rfl
      · exact h6⟩
theorem Alike.ready {L : Array Bool} {ops ops' : List Oper} (h : Alike L ops ops') {i : Nat} (hi : i ∈ Region.ready .any ops.toArray L) : i ∈ Region.ready .any ops'.toArray L := by
  obtain ⟨h1, o, ho, hd⟩ := mem_ready' hi
  obtain ⟨_, o', h2, _, _, h5⟩ := h.at_ i o ho (getD_tf h1)
  exact ready_of h1 h2 fun j hj => by
    rcases h5 j hj with h6 | h6
    · exact hd j h6
    · exact h6
theorem Alike.ready' {L : Array Bool} {ops ops' : List Oper} (h : Alike L ops ops') {i : Nat} (hi : i ∈ Region.ready .any ops'.toArray L) : i ∈ Region.ready .any ops.toArray L := by
  obtain ⟨h1, o', ho', hd⟩ := mem_ready' hi
  have hlt : i < ops.length := by have := (List.getElem?_eq_some_iff.1 ho').1; rw [h.len] at this; exact this
  have ho : ops[i]? = some ops[i] := List.getElem?_eq_getElem hlt
  obtain ⟨_, o2, h2, _, h4, _⟩ := h.at_ i _ ho (getD_tf h1)
  have e : o2 = o' := Option.some.inj (h2.symm.trans ho')
  subst e
  exact ready_of h1 ho fun j hj => hd j (h4 j hj)
theorem op_congr {F : Fence} {n : Nat} {P : Program} {ops ops' : List Oper} {Qx : Exit → Act → World → Prop} {i : Nat} {K : Act → World → Prop} {a : Act} {w : World} {o : Oper} {af} (ho : ops[i]? = some o) (ho' : ops'[i]? = some { o with after := af }) (hg : o.guard = none)
    (h : wpOpIn F n P ops'.toArray Qx i K a w) : wpOpIn F n P ops.toArray Qx i K a w := by
  unfold wpOpIn at h ⊢
  simp only [List.getElem?_toArray, ho, ho'] at h ⊢
  rw [if_pos (wanted_none (o := o) hg)]
  rw [if_pos (wanted_none (o := { o with after := af }) hg)] at h
  exact h
theorem any_congr {F : Fence} {n : Nat} {P : Program} {ops ops' : List Oper} {Qx : Exit → Act → World → Prop} : ∀ (f : Nat) (L : Array Bool) (a : Act) (w : World), Alike L ops ops' → L.size = ops.length →
    wpAnyIn F n P .any ops'.toArray Qx f L a w → wpAnyIn F n P .any ops.toArray Qx f L a w
  | 0, L, a, w, hA, _, h => ⟨List.eq_nil_iff_forall_not_mem.2 (fun i hi => (by have := hA.ready hi; rw [h.1] at this; cases this)), h.2⟩
  | f + 1, L, a, w, hA, hs, h => by
    refine ⟨fun he => h.1 (List.eq_nil_iff_forall_not_mem.2 (fun i hi => (by have := hA.ready' hi; rw [he] at this; cases this))), fun i hi => ?_⟩
    have h2 := h.2 i (hA.ready hi)
    obtain ⟨h1, o, ho, _⟩ := mem_ready' hi
    have hil : i < L.size := by rw [hs]; exact (List.getElem?_eq_some_iff.1 ho).1
    obtain ⟨hg, o', ho', ⟨af, rfl⟩, _⟩ := hA.at_ i o ho (getD_tf h1)
    exact wpOpIn_mono (fun a' w' h3 => any_congr f _ a' w' (hA.set hil) (by simpa using hs) h3) (op_congr ho ho' hg h2)

/-! ### Lists of operations that agree in what is asked of their order -/
structure SimO (ops ops' : List Oper) : Prop where
  len : ops'.length = ops.length
  at_ : ∀ (i : Nat) (o' : Oper), ops'[i]? = some o' → ∃ o : Oper, ops[i]? = some o ∧ o.dst = o'.dst ∧ depsOf o = depsOf o' ∧ namesOf ops o = namesOf ops' o'
theorem SimO.fwd {ops ops' : List Oper} (h : SimO ops ops') {i : Nat} {o : Oper} (ho : ops[i]? = some o) : ∃ o', ops'[i]? = some o' ∧ o.dst = o'.dst ∧ depsOf o = depsOf o' ∧ namesOf ops o = namesOf ops' o' := by
  have hlt : i < ops'.length := by rw [h.len]; exact (List.getElem?_eq_some_iff.1 ho).1
  have ho' : ops'[i]? = some ops'[i] := List.getElem?_eq_getElem hlt
  obtain ⟨o2, h1, h2⟩ := h.at_ i _ ho'
  have e : o2 = o := Option.some.inj (h1.symm.trans ho)
  subst e
  exact ⟨_, ho', h2⟩
theorem SimO.bef {ops ops' : List Oper} (h : SimO ops ops') {k i : Nat} (hb : Bef ops k i) : Bef ops' k i := by
  obtain ⟨n, hn⟩ := hb
  have key : ∀ n i, BefN ops n k i → BefN ops' n k i := by
    intro n
    induction n with
    | zero =>
      rintro i ⟨o, h1, h2⟩
      obtain ⟨o', h3, _, h4, _⟩ := h.fwd h1
      exact ⟨o', h3, by rw [← h4]; exact h2⟩
    | succ n ih =>
      rintro i ⟨o, j, h1, h2, h3⟩
      obtain ⟨o', h4, _, h5, _⟩ := h.fwd h1
      exact ⟨o', j, h4, by rw [← h5]; exact h2, ih j h3⟩
  exact ⟨n, key n i hn⟩
theorem SimO.chk {ops ops' : List Oper} {cs : List Nat} (h : SimO ops ops') (hC : ChkM ops cs) : ChkM ops' cs := by
  refine ⟨by rw [h.len]; exact hC.le, hC.c3, fun i o' ho' j hj => ?_, fun i o' k ok' s hi hk ho' hok' hs hne hn => ?_, fun i o' k hi ho' hk => ?_, fun i o' hi ho' hh j hj => ?_, fun i k hi hh hk hlt => h.bef (hC.chain i k hi hh hk hlt), fun i k hi h3 hk h0 => h.bef (hC.early i k hi h3 hk h0)⟩
  · obtain ⟨o, h1, _, h3, _⟩ := h.at_ i o' ho'
    exact hC.low i o h1 j (by rw [h3]; exact hj)
  · obtain ⟨o, h1, h2, _, h4⟩ := h.at_ i o' ho'
    obtain ⟨ok, h5, h6, _, _⟩ := h.at_ k ok' hok'
    have := hC.pair i o k ok s hi hk h1 h5 (by rw [h6]; exact hs) hne (by rw [h4, h2]; exact hn)
    split at this
    · rename_i hlt; rw [if_pos hlt]; exact h.bef this
    · rename_i hlt; rw [if_neg hlt]; exact h.bef this
  · obtain ⟨o, h1, _⟩ := h.at_ i o' ho'
    exact h.bef (hC.tail i o k hi h1 hk)
  · obtain ⟨o, h1, _, h3, _⟩ := h.at_ i o' ho'
    exact hC.head i o hi h1 hh j (by rw [h3]; exact hj)

theorem SimO.chT {ops ops' : List Oper} {cs : List Nat} (h : SimO ops ops') (hT : ChT ops cs) : ChT ops' cs := fun i o' k hi ho' hk => by
  obtain ⟨o, h1, _⟩ := h.at_ i o' ho'
  exact h.bef (hT i o k hi h1 hk)

/-! ### The statement with two effects -/
section
variable {C : Cx} {Q : KQ}
def noOp (l : List Oper) (q : Nat) (v : Value) : List Oper := match nth l q with
  | some o => l.set q { o with op := .assign (.const v) }
  | none => l
def depL (l : List Oper) (q p : Nat) : List Oper := match nth l q with
  | some o => l.set q { o with after := o.after.push { on := p, ground := .data } }
  | none => l
theorem noOp_eq {l : List Oper} {q : Nat} {v : Value} {o : Oper} (ho : l[q]? = some o) : noOp l q v = l.set q { o with op := .assign (.const v) } := by
  unfold noOp; rw [nth_eq, ho]
theorem depL_eq {l : List Oper} {q p : Nat} {o : Oper} (ho : l[q]? = some o) : depL l q p = l.set q { o with after := o.after.push { on := p, ground := .data } } := by
  unfold depL; rw [nth_eq, ho]
theorem cnt_set {L : Array Bool} {i m c : Nat} (hil : i < L.size) (him : i < m) (hun : L.getD i false = false) (hc : c + 1 = ((List.range m).filter fun k => !L.getD k false).length) : c = ((List.range m).filter fun k => !(L.setIfInBounds i true).getD k false).length := by
  have e1 : ((List.range m).filter fun k => !(L.setIfInBounds i true).getD k false) = ((List.range m).filter fun k => !L.getD k false).filter (fun k => k != i) := by
    rw [List.filter_filter]
    apply List.filter_congr
    intro k _
    rw [getD_set hil]
    by_cases e : k = i
    · subst e; simp
    · simp [e]
  have hmem : i ∈ (List.range m).filter fun k => !L.getD k false := List.mem_filter.2 ⟨List.mem_range.2 him, by simpa using hun⟩
  have hnd : ((List.range m).filter fun k => !L.getD k false).Nodup := List.nodup_range.filter _
  rw [e1, ← hnd.erase_eq_filter, List.length_erase_of_mem hmem]
  omega
theorem namesOf_none {ops : List Oper} {o : Oper} (h : o.guard = none) : namesOf ops o = tmpsOf o.op.operands.toList := by unfold namesOf; rw [h]
theorem guardOf_none {ops : List Oper} {L : Look} {o : Oper} (h : o.guard = none) : guardOf ops L o = some true := by unfold guardOf; rw [h]
theorem guardIn_none {ops : List Oper} {L : Look} {o : Oper} (h : o.guard = none) : guardIn ops L o = none := by unfold guardIn; rw [h]
def csA (p : Nat) : List Nat := List.replicate p 0 ++ [2, 2]
def csB (p : Nat) : List Nat := List.replicate p 0 ++ [2, 0]
theorem cls_lo (p : Nat) (r : List Nat) {k : Nat} (h : k < p) : clsAt (List.replicate p 0 ++ r) k = 0 := by
  unfold clsAt
  rw [nth_eq, List.getElem?_append_left (by simpa using h), List.getElem?_replicate, if_pos h]; rfl
theorem cls_hi (p : Nat) (r : List Nat) {k : Nat} (h : p ≤ k) : clsAt (List.replicate p 0 ++ r) k = clsAt r (k - p) := by
  unfold clsAt
  rw [nth_eq, nth_eq, List.getElem?_append_right (by simpa using h), List.length_replicate]
theorem csA_len (p : Nat) : (csA p).length = p + 2 := by simp [csA]
theorem csB_len (p : Nat) : (csB p).length = p + 2 := by simp [csB]
theorem depL_len (l : List Oper) (q p : Nat) : (depL l q p).length = l.length := by unfold depL; split <;> simp
theorem noOp_len (l : List Oper) (q : Nat) (v : Value) : (noOp l q v).length = l.length := by unfold noOp; split <;> simp
theorem depL_ne {l : List Oper} {q p i : Nat} (h : i ≠ q) : (depL l q p)[i]? = l[i]? := by
  unfold depL
  split
  · rw [List.getElem?_set_ne (Ne.symm h)]
  · rfl
theorem noOp_ne {l : List Oper} {q i : Nat} {v : Value} (h : i ≠ q) : (noOp l q v)[i]? = l[i]? := by
  unfold noOp
  split
  · rw [List.getElem?_set_ne (Ne.symm h)]
  · rfl
theorem depL_at {l : List Oper} {q p : Nat} {o : Oper} (ho : l[q]? = some o) : (depL l q p)[q]? = some { o with after := o.after.push { on := p, ground := .data } } := by
  rw [depL_eq ho, List.getElem?_set_self (List.getElem?_eq_some_iff.1 ho).1]
theorem noOp_at {l : List Oper} {q : Nat} {v : Value} {o : Oper} (ho : l[q]? = some o) : (noOp l q v)[q]? = some { o with op := .assign (.const v) } := by
  rw [noOp_eq ho, List.getElem?_set_self (List.getElem?_eq_some_iff.1 ho).1]
theorem deps_push {o : Oper} {p j : Nat} : j ∈ depsOf { o with after := o.after.push { on := p, ground := .data } } ↔ j ∈ depsOf o ∨ j = p := by
  have hb : Region.binds .any { on := p, ground := .data } = true := rfl
  unfold depsOf
  simp only [Array.toList_push, List.filter_append, List.map_append, List.mem_append, List.filter_cons, hb, if_true, List.filter_nil, List.map_cons, List.map_nil, List.mem_singleton]
theorem alikeA {l : List Oper} {p : Nat} {oq : Oper} {L : Array Bool} (hq : l[p + 1]? = some oq) (hgn : ∀ (i : Nat) (o : Oper), l[i]? = some o → o.guard = none) (hp : L.getD p false = true) : Alike L l (depL l (p + 1) p) :=
  ⟨depL_len _ _ _, fun i o ho hl => by
    refine ⟨hgn i o ho, ?_⟩
    by_cases e : i = p + 1
    · subst e
      obtain rfl := Option.some.inj (hq.symm.trans ho)
      refine ⟨_, depL_at hq, ⟨_, rfl⟩, fun j hj => deps_push.2 (.inl hj), fun j hj => ?_⟩
      rcases deps_push.1 hj with h1 | h1
      · exact .inl h1
      · subst h1; exact .inr hp
    · exact ⟨o, by rw [depL_ne e]; exact ho, ⟨o.after, rfl⟩, fun j hj => hj, fun j hj => .inl hj⟩⟩
theorem alikeB {l : List Oper} {p : Nat} {v : Value} {L : Array Bool} (hgn : ∀ (i : Nat) (o : Oper), l[i]? = some o → o.guard = none) (hp : L.getD (p + 1) false = true) : Alike L l (noOp l (p + 1) v) :=
  ⟨noOp_len _ _ _, fun i o ho hl => by
    refine ⟨hgn i o ho, ?_⟩
    have e : i ≠ p + 1 := fun e => by subst e; rw [hp] at hl; cases hl
    exact ⟨o, by rw [noOp_ne e]; exact ho, ⟨o.after, rfl⟩, fun j hj => hj, fun j hj => .inl hj⟩⟩
theorem hdA_lo {p k : Nat} (h : k < p) : hdB (csA p) k = true ∧ hdB (csB p) k = true ∧ clsAt (csA p) k = 0 ∧ clsAt (csB p) k = 0 := by
  have e1 := cls_lo p [2, 2] h
  have e2 := cls_lo p [2, 0] h
  unfold hdB csA csB
  rw [e1, e2]
  exact ⟨rfl, rfl, rfl, rfl⟩
theorem hdA_p (p : Nat) : hdB (csA p) p = false ∧ hdB (csB p) p = false := by
  have e1 := cls_hi p [2, 2] (Nat.le_refl p)
  have e2 := cls_hi p [2, 0] (Nat.le_refl p)
  unfold hdB csA csB
  rw [e1, e2, Nat.sub_self]
  exact ⟨rfl, rfl⟩
theorem hdA_q (p : Nat) : hdB (csA p) (p + 1) = false ∧ hdB (csB p) (p + 1) = true ∧ clsAt (csB p) (p + 1) = 0 := by
  have e1 := cls_hi p [2, 2] (Nat.le_succ p)
  have e2 := cls_hi p [2, 0] (Nat.le_succ p)
  unfold hdB csA csB
  rw [e1, e2, show p + 1 - p = 1 by omega]
  exact ⟨rfl, rfl, rfl⟩
/-- The frames when the second effect has been carried out first. -/
theorem runB {l : List Oper} {p dq : Nat} {oq : Oper} {σ : Heap} {gs : Nat → Bool} {vs : Nat → Value} {frs : Nat → Fr} {v : Value} (hq : l[p + 1]? = some oq) (hdq : oq.dst = some dq) (hdN : Nat.blt dq C.N = true) (hgn : ∀ (i : Nat) (o : Oper), l[i]? = some o → o.guard = none)
    (hRA : RunH C (depL l (p + 1) p) σ [] (csA p) gs vs frs) : RunH C (noOp l (p + 1) v) σ [] (csB p) (fun k => if k = p + 1 then true else gs k) (fun k => if k = p + 1 then v else vs k) (fun k => if k = p + 2 then (dq, true, v) :: frs (p + 2) else frs k) := by
  refine ⟨fun k o hk ho => ?_⟩
  rw [csB_len] at hk
  by_cases e : k = p + 1
  · subst e
    rw [noOp_at hq] at ho
    obtain rfl := Option.some.inj ho
    have h2 := (hRA.at_ (p + 1) _ (by rw [csA_len]; omega) (depL_at hq)).no (hdA_q p).1
    have hgq : oq.guard = none := hgn _ _ hq
    refine ⟨fun _ => ⟨.inl ?_, ?_, ?_, ?_⟩, fun e => by rw [(hdA_q p).2.1] at e; cases e⟩
    · rw [guardOf_none (show ({ oq with op := .assign (.const v) } : Oper).guard = none from hgq)]; simp
    · rw [hdq]; exact hdN
    · rw [if_pos rfl, if_pos rfl]
      exact qt_assign rfl rfl (fun _ => rfl)
    · show (if p + 1 + 1 = p + 2 then (dq, true, v) :: frs (p + 2) else frs (p + 1 + 1)) = pushFr oq.dst (if p + 1 = p + 1 then true else gs (p + 1)) (if p + 1 = p + 1 then v else vs (p + 1)) (if p + 1 = p + 2 then (dq, true, v) :: frs (p + 2) else frs (p + 1))
      have h3 : frs (p + 2) = frs (p + 1) := h2
      rw [if_pos rfl, if_pos rfl, if_pos rfl, if_neg (show ¬ p + 1 = p + 2 by omega), hdq, h3]; rfl
  · rw [noOp_ne e] at ho
    have hst := hRA.at_ k o (by rw [csA_len]; omega) (by rw [depL_ne e]; exact ho)
    have hg := hgn _ _ ho
    have e1 : namesOf (noOp l (p + 1) v) o = namesOf (depL l (p + 1) p) o := by rw [namesOf_none hg, namesOf_none hg]
    rw [if_neg e, if_neg e, if_neg (by omega), if_neg (by omega)]
    by_cases hkp : k < p
    · obtain ⟨a1, a2, a3, a4⟩ := hdA_lo hkp
      obtain ⟨b1, b2, b3, b4⟩ := hst.yes a1
      refine ⟨fun _ => ⟨?_, b2, ?_, b4⟩, fun e => by rw [a2] at e; cases e⟩
      · rw [e1, guardOf_none hg]
        rw [guardOf_none hg, guardIn_none hg] at b1
        rcases b1 with b1 | b1
        · exact .inl b1
        · cases b1
      · rw [e1, a4]; rw [a3] at b3; exact b3
    · obtain rfl : k = p := by omega
      exact ⟨fun e => (by rw [(hdA_p k).2] at e; cases e), fun _ => hst.no (hdA_p k).1⟩
/-- What holds when the second effect has been carried out first. -/
theorem invB {l : List Oper} {p dq : Nat} {oq : Oper} {σ σ' : Heap} {gs : Nat → Bool} {vs : Nat → Value} {frm : Fr} {a0 a : Act} {w w' : World} {L : Array Bool} {v : Value} {KA KB : Fr → Heap → Prop} (hq : l[p + 1]? = some oq) (hdq : oq.dst = some dq) (hdN : Nat.blt dq C.N = true)
    (hI : InvM C (depL l (p + 1) p) σ [] (csA p) gs vs frm a0 KA L a w 0 false frm σ) (hp : L.getD p false = false) (hd : ∀ j ∈ depsOf oq, L.getD j false = true) (hs : Stp σ σ' w w') (hk : ∀ x ∈ σ, x ∈ σ')
    (hgo : KDM C (noOp l (p + 1) v) σ [] KB false (csB p) (noOp l (p + 1) v) ((dq, true, v) :: frm) σ') :
    InvM C (noOp l (p + 1) v) σ [] (csB p) (fun k => if k = p + 1 then true else gs k) (fun k => if k = p + 1 then v else vs k) ((dq, true, v) :: frm) a0 KB (L.setIfInBounds (p + 1) true) (a.put (some dq) v) w' 0 false ((dq, true, v) :: frm) σ' := by
  have hlt : p + 1 < l.length := (List.getElem?_eq_some_iff.1 hq).1
  have hil : p + 1 < L.size := by rw [hI.size, depL_len]; exact hlt
  have hmids : ∀ k, L.getD k false = true → k < p := fun k hk => by
    rcases Nat.lt_or_ge k p with h1 | h1
    · exact h1
    · rcases Nat.lt_or_ge k (p + 2) with h2 | h2
      · have e : hdB (csA p) k = false := by
          rcases (show k = p ∨ k = p + 1 by omega) with rfl | rfl
          · exact (hdA_p _).1
          · exact (hdA_q p).1
        have := (hI.mids k (by rw [csA_len]; exact h2) e).1 hk
        omega
      · rw [hI.pre k (by rw [csA_len]; exact h2)] at hk; cases hk
  have hokd : okDst C.N (some dq) = true := hdN
  have hset : ∀ k, (L.setIfInBounds (p + 1) true).getD k false = true → k = p + 1 ∨ (k < p ∧ L.getD k false = true) := fun k hk => by
    rw [getD_set hil] at hk
    by_cases e : k = p + 1
    · exact .inl e
    · rw [if_neg e] at hk; exact .inr ⟨hmids k hk, hk⟩
  have hno : ∀ k, k < p → ∀ o, (noOp l (p + 1) v)[k]? = some o → (depL l (p + 1) p)[k]? = some o := fun k hk o ho => by
    rw [noOp_ne (by omega)] at ho; rw [depL_ne (by omega)]; exact ho
  refine ⟨by rw [noOp_len]; simpa [depL_len] using hI.size, fun k o hk hl j hj => ?_, fun k hk => ?_, by rw [put_size]; exact hI.n, Nat.zero_le _, fun k hk hm => ?_, (fun h => by cases h), fun s k o hkh hl hk hks hmax => ?_, fun s k o g v' hkh hl hk hks hF => ?_, fun s _ => rfl, fun s hn => ?_, hI.own.step hs, (hI.defs.step hs).put, hI.hid.step hs, fun x hx => hk x hx, hgo⟩
  · rcases hset k hl with rfl | ⟨h1, h2⟩
    · rw [noOp_at hq] at hk
      obtain rfl := Option.some.inj hk
      have := hd j hj
      rw [getD_set hil]; split
      · rfl
      · exact this
    · have := hI.closed k o (hno k h1 o hk) h2 j hj
      rw [getD_set hil]; split
      · rfl
      · exact this
  · rw [csB_len] at hk
    rw [getD_set hil, if_neg (by omega)]
    exact hI.pre k (by rw [csA_len]; exact hk)
  · have hkp : k = p := by
      rw [csB_len] at hk
      rcases Nat.lt_or_ge k p with h1 | h1
      · rw [(hdA_lo h1).2.1] at hm; cases hm
      · rcases (show k = p ∨ k = p + 1 by omega) with h2 | h2
        · exact h2
        · subst h2; rw [(hdA_q p).2.1] at hm; cases hm
    subst hkp
    rw [getD_set hil, if_neg (by omega), hp]
    constructor
    · intro h; cases h
    · intro h; omega
  · rw [okDst_put hI.n hokd]
    by_cases e : k = p + 1
    · subst e
      rw [noOp_at hq] at hk
      obtain rfl := Option.some.inj hk
      have hks' : oq.dst = some s := hks
      rw [hdq] at hks'
      rw [if_pos hks']
      show some v = some (gv (if p + 1 = p + 1 then true else gs (p + 1)) (if p + 1 = p + 1 then v else vs (p + 1)))
      rw [if_pos rfl, if_pos rfl]; rfl
    · rcases hset k hl with h1 | ⟨h1, h2⟩
      · exact absurd h1 e
      · have hne : ¬ (some dq = some s) := fun e2 => by
          have := (hmax (p + 1) _ (by rw [getD_set hil, if_pos rfl]) (noOp_at hq) (by show oq.dst = some s; rw [hdq]; exact e2)).2
          omega
        rw [if_neg hne]
        show a.tmps[s]? = some (gv (if k = p + 1 then true else gs k) (if k = p + 1 then v else vs k))
        rw [if_neg e, if_neg e]
        refine hI.wrote s k o (hdA_lo h1).1 h2 (hno k h1 o hk) hks (fun k' o' hl' hk' hs' => ?_)
        have h3 := hmids k' hl'
        refine ⟨(hdA_lo h3).1, (hmax k' o' (by rw [getD_set hil, if_neg (by omega)]; exact hl') (by rw [depL_ne (by omega)] at hk'; rw [noOp_ne (by omega)]; exact hk') hs').2⟩
  · rcases hset k hl with rfl | ⟨h1, _⟩
    · rw [(hdA_q p).2.1] at hkh; cases hkh
    · rw [(hdA_lo h1).2.1] at hkh; cases hkh
  · have hne : ¬ (some dq = some s) := fun e2 => hn (p + 1) _ (by rw [getD_set hil, if_pos rfl]) (noOp_at hq) (by show oq.dst = some s; rw [hdq]; exact e2)
    rw [okDst_put hI.n hokd, if_neg hne]
    refine hI.kept s fun k o hl hk => ?_
    have h3 := hmids k hl
    exact hn k o (by rw [getD_set hil, if_neg (by omega)]; exact hl) (by rw [depL_ne (by omega)] at hk; rw [noOp_ne (by omega)]; exact hk)
theorem any_P {l : List Oper} {p dq : Nat} {oq : Oper} {σ : Heap} {gs : Nat → Bool} {vs : Nat → Value} {frs : Nat → Fr} {a0 : Act} {Rq : Value → Heap → Prop} (hq : l[p + 1]? = some oq) (hdq : oq.dst = some dq) (hdN : Nat.blt dq C.N = true) (hgn : ∀ (i : Nat) (o : Oper), l[i]? = some o → o.guard = none)
    (hCA : ChkM (depL l (p + 1) p) (csA p)) (hTA : ChT (depL l (p + 1) p) (csA p)) (hCB : ∀ v, ChkM (noOp l (p + 1) v) (csB p)) (hTB : ∀ v, ChT (noOp l (p + 1) v) (csB p)) (hRA : RunH C (depL l (p + 1) p) σ [] (csA p) gs vs frs) (h0 : LOk (look (frs 0)) a0) (hn0 : (keys σ).Nodup) (hE : EO C (fun _ => none) σ oq Rq)
    (hB : ∀ v σ', Rq v σ' → (∀ x ∈ σ, x ∈ σ') ∧ KDM C (noOp l (p + 1) v) σ [] (fun fr σ => KO C (noOp l (p + 1) v) Q ((noOp l (p + 1) v).drop (p + 2)) fr σ) false (csB p) (noOp l (p + 1) v) ((dq, true, v) :: frs (p + 2)) σ') :
    ∀ (f c : Nat) (L : Array Bool) (a : Act) (w : World), c + 1 = ((List.range (p + 2)).filter fun i => !L.getD i false).length → f = c + 1 + (l.length - (p + 2)) → L.getD p false = false → L.getD (p + 1) false = false →
      InvM C (depL l (p + 1) p) σ [] (csA p) gs vs (frs (p + 2)) a0 (fun fr σ => KO C (depL l (p + 1) p) Q ((depL l (p + 1) p).drop (p + 2)) fr σ) L a w 0 false (frs (p + 2)) σ →
      wpAnyIn (fnc C.r) 0 C.P .any l.toArray (lift C Q) f L a w
  | 0, c, L, a, w, hc, hf, _, _, _ => by omega
  | f + 1, c, L, a, w, hc, hf, hp, hqn, hI => by
    have hlt : p + 1 < l.length := (List.getElem?_eq_some_iff.1 hq).1
    have hLs : L.size = l.length := by rw [hI.size, depL_len]
    have hany := any_mid hCA hTA hRA h0 hn0 (by simp [keys]) (fun p hp => by cases hp) (f + 1) (c + 1) L a w 0 false (frs (p + 2)) σ (by rw [csA_len]; exact hc) (by rw [csA_len, depL_len]; exact hf) (by rw [csA_len]; exact hI)
    have hsub : ∀ i, i ∈ Region.ready .any (depL l (p + 1) p).toArray L → i ∈ Region.ready .any l.toArray L := fun i hi => by
      obtain ⟨h1, o, ho, hd⟩ := mem_ready' hi
      by_cases e : i = p + 1
      · subst e
        rw [depL_at hq] at ho
        obtain rfl := Option.some.inj ho
        exact ready_of h1 hq fun j hj => hd j (deps_push.2 (.inl hj))
      · rw [depL_ne e] at ho
        exact ready_of h1 ho hd
    refine ⟨fun he => hany.1 (List.eq_nil_iff_forall_not_mem.2 (fun i hi => (by have := hsub i hi; rw [he] at this; cases this))), fun i hi => ?_⟩
    obtain ⟨h1, o, ho, hd⟩ := mem_ready' hi
    have hun := getD_tf h1
    have hil : i < L.size := by rw [hLs]; exact (List.getElem?_eq_some_iff.1 ho).1
    have hg := hgn i o ho
    rcases (show i < p ∨ i = p ∨ i = p + 1 ∨ p + 2 ≤ i by omega) with hip | hip | hip | hip
    · have hoA : (depL l (p + 1) p)[i]? = some o := by rw [depL_ne (by omega)]; exact ho
      obtain ⟨a1, _, a3, _⟩ := hdA_lo hip
      have him : i < (csA p).length := by rw [csA_len]; omega
      obtain ⟨g1, g2, g3, g4⟩ := (hRA.at_ i o him hoA).yes a1
      have hIl : InvM C (depL l (p + 1) p) σ [] (csA p) gs vs (frs (csA p).length) a0 (fun fr σ => KO C (depL l (p + 1) p) Q ((depL l (p + 1) p).drop (p + 2)) fr σ) L a w 0 false (frs (p + 2)) σ := by rw [csA_len]; exact hI
      have hL := InvM.namesH hCA hRA h0 hIl him a1 hoA hun hd
      have hown : Own C.E (hSel σ [] (clsAt (csA p) i)) w := by
        rw [a3]
        exact hI.own.take hn0 (fun p hp => hp)
      have hgi : gs i = true := by
        rw [guardOf_none hg, guardIn_none hg] at g1
        rcases g1 with g1 | g1
        · exact (Option.some.inj g1).symm
        · cases g1
      have hcnt := cnt_set (c := c) hil (by omega : i < p + 2) hun hc
      obtain ⟨c', rfl⟩ : ∃ c', c = c' + 1 := by
        have hmem : p ∈ (List.range (p + 2)).filter fun k => !(L.setIfInBounds i true).getD k false := List.mem_filter.2 ⟨List.mem_range.2 (by omega), by rw [getD_set hil, if_neg (by omega), hp]; rfl⟩
        have := List.length_pos_of_mem hmem
        exact ⟨c - 1, by omega⟩
      have hnext : ∀ w', Below w.heap.size w w' → wpAnyIn (fnc C.r) 0 C.P .any l.toArray (lift C Q) f (L.setIfInBounds i true) (a.put o.dst (gv (gs i) (vs i))) w' := fun w' hb =>
        any_P hq hdq hdN hgn hCA hTA hCB hTB hRA h0 hn0 hE hB f c' _ _ w' hcnt (by omega) (by rw [getD_set hil, if_neg (by omega)]; exact hp) (by rw [getD_set hil, if_neg (by omega)]; exact hqn) (hI.nextH hCA him a1 hoA hun hd g2 hb)
      unfold wpOpIn
      simp only [List.getElem?_toArray, ho]
      rw [if_pos (wanted_none hg)]
      rw [hgi] at g3
      refine (g3.eff hL hown).wpIn ?_
      rintro x w' ⟨rfl, hb⟩
      have := hnext w' hb
      rw [hgi] at this
      exact this
    · subst hip
      have hoA : (depL l (i + 1) i)[i]? = some o := by rw [depL_ne (by omega)]; exact ho
      have h2 := hany.2 i (ready_of h1 hoA hd)
      exact wpOpIn_mono (fun a' w' h3 => any_congr f _ a' w' (alikeA hq hgn (by rw [getD_set hil, if_pos rfl])) (by simpa using hLs) h3) (op_congr (af := o.after) ho hoA hg h2)
    · subst hip
      obtain rfl := Option.some.inj (hq.symm.trans ho)
      unfold wpOpIn
      simp only [List.getElem?_toArray, ho]
      rw [if_pos (wanted_none hg)]
      refine (hE a w (fun s g v h => by cases h) hI.own).wpIn ?_
      rintro v w' ⟨σ', hr, hs⟩
      obtain ⟨hk, hgo⟩ := hB v σ' hr
      have hIB := invB hq hdq hdN hI hp hd hs hk hgo
      have hcnt := cnt_set (c := c) hil (by omega : p + 1 < p + 2) hun hc
      have hRB := runB (C := C) (v := v) hq hdq hdN hgn hRA
      have hanyB := any_mid (hCB v) (hTB v) hRB (by show LOk (look (if 0 = p + 2 then (dq, true, v) :: frs (p + 2) else frs 0)) a0; rw [if_neg (by omega)]; exact h0) hn0 (by simp [keys]) (fun p hp => by cases hp) f c (L.setIfInBounds (p + 1) true) _ w' 0 false ((dq, true, v) :: frs (p + 2)) σ' (by rw [csB_len]; exact hcnt) (by rw [csB_len, noOp_len]; omega) (by rw [csB_len, if_pos (rfl : p + 2 = p + 2)]; exact hIB)
      rw [hdq]
      exact any_congr f _ _ w' (alikeB (v := v) hgn (by rw [getD_set hil, if_pos rfl])) (by simpa using hLs) hanyB
    · exfalso
      have hoA : (depL l (p + 1) p)[i]? = some o := by rw [depL_ne (by omega)]; exact ho
      have hb := hCA.tail i o p (by rw [csA_len]; exact hip) hoA (by rw [csA_len]; omega)
      have := hb.listed' hI.closed hoA hd
      rw [hp] at this; cases this
theorem KDM.unskip {ops : List Oper} {cs : List Nat} {σ0 ρ : Heap} {K : Fr → Heap → Prop} {h : Bool} {F : Fr} {σ : Heap} (hle : cs.length ≤ ops.length) : ∀ (n t : Nat), t + n ≤ cs.length → (∀ k, t ≤ k → k < t + n → hdB cs k = true) → KDM C ops σ0 ρ K h (cs.drop (t + n)) (ops.drop (t + n)) F σ → KDM C ops σ0 ρ K h (cs.drop t) (ops.drop t) F σ
  | 0, t, _, _, hk => hk
  | n + 1, t, ht, hh, hk => by
    have h1 : t < cs.length := by omega
    have h2 : t < ops.length := by omega
    rw [getI_drop_cls h1, List.drop_eq_getElem_cons h2]
    unfold KDM
    have h3 : Nat.ble (clsAt cs t) 1 = true := hh t (Nat.le_refl _) (by omega)
    rw [h3]
    exact KDM.unskip hle n (t + 1) (by omega) (fun k hk1 hk2 => hh k (by omega) (by omega)) (by rwa [show t + 1 + n = t + (n + 1) by omega])
theorem KDH.congr {ops ops' : List Oper} {σ0 ρ : Heap} {K : Fr → Prop} : ∀ (cs : List Nat) (l l' : List Oper) (fr : Fr), l'.length = l.length → (∀ (k : Nat) (o : Oper), l[k]? = some o → o.guard = none ∧ (hdB cs k = true → l'[k]? = some o)) → KDH C ops σ0 ρ K cs l fr → KDH C ops' σ0 ρ K cs l' fr
  | [], l, l', fr, _, _, h => by cases l <;> cases l' <;> (unfold KDH at h ⊢; exact h)
  | c :: cs, [], [], fr, _, _, h => by unfold KDH at h ⊢; exact h
  | c :: cs, [], _ :: _, fr, hl, _, h => by simp at hl
  | c :: cs, _ :: _, [], fr, hl, _, h => by simp at hl
  | c :: cs, o :: l, o' :: l', fr, hl, hk, h => by
    have hk' : ∀ (k : Nat) (x : Oper), l[k]? = some x → x.guard = none ∧ (hdB cs k = true → l'[k]? = some x) := fun k x hx => by
      have := hk (k + 1) x (by simpa using hx)
      exact ⟨this.1, fun e => by simpa using this.2 e⟩
    have hl' : l'.length = l.length := by simpa using hl
    unfold KDH at h ⊢
    cases hc : Nat.ble c 1 with
    | false =>
      rw [hc] at h
      exact KDH.congr cs l l' fr hl' hk' h
    | true =>
      rw [hc] at h
      obtain ⟨g, v, h1, h2, h3, h4⟩ := h
      obtain ⟨hg, he⟩ := hk 0 o rfl
      have e : o' = o := by have := he hc; simpa using this
      subst e
      refine ⟨g, v, ?_, h2, ?_, KDH.congr cs l l' _ hl' hk' h4⟩
      · rw [guardOf_none hg, guardIn_none hg] at h1 ⊢; exact h1
      · rw [namesOf_none hg] at h3 ⊢; exact h3
def chkP (l : List Oper) (p : Nat) : Bool :=
  chkM (depL l (p + 1) p) (csA p) && chkM (noOp l (p + 1) (.bool false)) (csB p) && l.all (fun o => o.guard.isNone) && (match nth l (p + 1) with | some o => (tmpsOf o.op.operands.toList).isEmpty | none => false)
/-- A statement whose order is open: quiet operations, then two effects in whichever order, then what is behind all. -/
theorem KW.drawP {id : Nat} {l tl : List Oper} {fr : Fr} {σ : Heap} {op oq : Oper} {dp dq : Nat} (p : Nat) (cs : List Nat) (hcs : csA p = cs) (hp : nth l p = some op) (hq : nth l (p + 1) = some oq) (hdp : op.dst = some dp) (hdq : oq.dst = some dq) (hNp : Nat.blt dp C.N = true) (hNq : Nat.blt dq C.N = true) (ht : dropL cs l = some tl) (hc : chkP l p = true)
    (h : KDH C l σ [] (fun fr' =>
      (∃ Rp, EO C (LR (namesOf l op) (look fr')) σ op Rp ∧ ∀ v σ1, Rp v σ1 → (∀ x ∈ σ, x ∈ σ1) ∧ ∃ Rq, EO C (fun _ => none) σ1 oq Rq ∧ ∀ v2 σ2, Rq v2 σ2 → (∀ x ∈ σ, x ∈ σ2) ∧ KO C (depL l (p + 1) p) Q tl ((dq, true, v2) :: (dp, true, v) :: fr') σ2) ∧
      (∃ Rq, EO C (fun _ => none) σ oq Rq ∧ ∀ v σ1, Rq v σ1 → (∀ x ∈ σ, x ∈ σ1) ∧ ∃ Rp, EO C (LR (namesOf l op) (look ((dq, true, v) :: fr'))) σ1 op Rp ∧ ∀ v2 σ2, Rp v2 σ2 → (∀ x ∈ σ, x ∈ σ2) ∧ KO C (noOp l (p + 1) v) Q tl ((dp, true, v2) :: (dq, true, v) :: fr') σ2)) cs l fr) : KW C Q (.region id l.toArray true) fr σ := by
  subst hcs
  rw [nth_eq] at hp hq
  unfold chkP at hc
  rw [nth_eq, hq] at hc
  simp only [Bool.and_eq_true, List.all_eq_true, Option.isNone_iff_eq_none, List.isEmpty_iff] at hc
  obtain ⟨⟨⟨hcA, hcB⟩, hgn0⟩, hnm⟩ := hc
  have hgn : ∀ (i : Nat) (o : Oper), l[i]? = some o → o.guard = none := fun i o ho => hgn0 o (List.mem_of_getElem? ho)
  have hCA := chkM_ok hcA
  have hCB0 := chkM_ok hcB
  have hgp := hgn _ _ hp
  have hgq := hgn _ _ hq
  have hTA := chkM_okT hcA
  have hTB0 := chkM_okT hcB
  have hSim : ∀ v, SimO (noOp l (p + 1) (.bool false)) (noOp l (p + 1) v) := fun v => by
    refine ⟨by rw [noOp_len, noOp_len], fun i o' ho' => ?_⟩
    by_cases e : i = p + 1
    · subst e
      rw [noOp_at hq] at ho'
      obtain rfl := Option.some.inj ho'
      refine ⟨_, noOp_at hq, rfl, rfl, ?_⟩
      rw [namesOf_none (show ({ oq with op := .assign (.const (.bool false)) } : Oper).guard = none from hgq), namesOf_none (show ({ oq with op := .assign (.const v) } : Oper).guard = none from hgq)]
      rfl
    · rw [noOp_ne e] at ho'
      refine ⟨o', by rw [noOp_ne e]; exact ho', rfl, rfl, ?_⟩
      rw [namesOf_none (hgn _ _ ho'), namesOf_none (hgn _ _ ho')]
  have hCB : ∀ v, ChkM (noOp l (p + 1) v) (csB p) := fun v => (hSim v).chk hCB0
  have hTB : ∀ v, ChT (noOp l (p + 1) v) (csB p) := fun v => (hSim v).chT hTB0
  have htl : l.drop (p + 2) = tl := by have := dropL_ok ht; rwa [csA_len] at this
  have hdA : (depL l (p + 1) p).drop (p + 2) = tl := by
    rw [← htl, depL_eq hq, List.drop_set, if_pos (by omega)]
  have hdB' : ∀ v, (noOp l (p + 1) v).drop (p + 2) = tl := fun v => by
    rw [← htl, noOp_eq hq, List.drop_set, if_pos (by omega)]
  have hltl : p + 1 < l.length := (List.getElem?_eq_some_iff.1 hq).1
  intro a w hS
  have h' := KDH.congr (ops' := depL l (p + 1) p) (csA p) l (depL l (p + 1) p) fr (depL_len _ _ _) (fun k o ho => ⟨hgn k o ho, fun hh => by
    have : k ≠ p + 1 := fun e => by subst e; rw [(hdA_q p).1] at hh; cases hh
    rw [depL_ne this]; exact ho⟩) h
  obtain ⟨gs, vs, frs, e1, e2, hAB, hBB⟩ := KDH.run (csA p) (depL l (p + 1) p) 0 fr (by simp) hCA.le (by simp) h'
  rw [Nat.zero_add, csA_len] at hAB hBB
  have hRA : RunH C (depL l (p + 1) p) σ [] (csA p) gs vs frs := ⟨fun k o hk ho => by simpa using e2 k o (Nat.zero_le _) (by omega) ho⟩
  obtain ⟨Rp, hEp, hgo⟩ := hAB
  obtain ⟨Rq, hEq, hgoB⟩ := hBB
  have hnr : ∀ {L : Look} {σ1 : Heap} {R : Value → Heap → Prop}, EO C (fun _ => none) σ1 oq R → EO C L σ1 oq R := fun hE a w _ hO => hE a w (fun s g v e => by cases e) hO
  have hopA : (depL l (p + 1) p)[p]? = some op := by rw [depL_ne (by omega)]; exact hp
  have hgoA : KDM C (depL l (p + 1) p) σ [] (fun fr σ => KO C (depL l (p + 1) p) Q ((depL l (p + 1) p).drop (p + 2)) fr σ) false (csA p) (depL l (p + 1) p) (frs (p + 2)) σ := by
    refine KDM.unskip (cs := csA p) hCA.le p 0 (by rw [csA_len]; omega) (fun k _ hk => (hdA_lo (by omega)).1) ?_
    rw [Nat.zero_add]
    have c1 : (csA p).drop p = [2, 2] := by unfold csA; rw [List.drop_left' (by simp)]
    have c2 : (depL l (p + 1) p).drop p = op :: { oq with after := oq.after.push { on := p, ground := .data } } :: tl := by
      rw [List.drop_eq_getElem_cons (by rw [depL_len]; omega), List.drop_eq_getElem_cons (by rw [depL_len]; omega), hdA]
      have d1 : (depL l (p + 1) p)[p]'(by rw [depL_len]; omega) = op := by
        have := List.getElem?_eq_getElem (l := depL l (p + 1) p) (i := p) (by rw [depL_len]; omega)
        rw [hopA] at this; exact (Option.some.inj this).symm
      have d2 : (depL l (p + 1) p)[p + 1]'(by rw [depL_len]; omega) = { oq with after := oq.after.push { on := p, ground := .data } } := by
        have := List.getElem?_eq_getElem (l := depL l (p + 1) p) (i := p + 1) (by rw [depL_len]; omega)
        rw [depL_at hq] at this; exact (Option.some.inj this).symm
      rw [d1, d2]
    rw [c1, c2]
    unfold KDM
    show ∃ g R, _
    refine ⟨true, Rp, guardOf_none hgp, by rw [hdp]; exact hNp, fun _ => by rw [namesOf_none hgp] at hEp ⊢; exact hEp, (fun e => by cases e), fun v σ1 hr => ?_⟩
    obtain ⟨k1, Rq', hEq', k2⟩ := hgo v σ1 hr
    refine ⟨k1, ?_⟩
    unfold KDM
    show ∃ g R, _
    refine ⟨true, Rq', guardOf_none hgq, by show okDst C.N oq.dst = true; rw [hdq]; exact hNq, fun _ => hnr hEq', (fun e => by cases e), fun v2 σ2 hr2 => ?_⟩
    obtain ⟨k3, k4⟩ := k2 v2 σ2 hr2
    refine ⟨k3, ?_⟩
    unfold KDM
    rw [hdA]
    show KO C (depL l (p + 1) p) Q tl (pushFr oq.dst true v2 (pushFr op.dst true v (frs (p + 2)))) σ2
    rw [hdq, hdp]
    exact k4
  have hgoB' : ∀ v σ', Rq v σ' → (∀ x ∈ σ, x ∈ σ') ∧ KDM C (noOp l (p + 1) v) σ [] (fun fr σ => KO C (noOp l (p + 1) v) Q ((noOp l (p + 1) v).drop (p + 2)) fr σ) false (csB p) (noOp l (p + 1) v) ((dq, true, v) :: frs (p + 2)) σ' := fun v σ1 hr => by
    obtain ⟨k1, Rp', hEp', k2⟩ := hgoB v σ1 hr
    refine ⟨k1, ?_⟩
    refine KDM.unskip (cs := csB p) (hCB v).le p 0 (by rw [csB_len]; omega) (fun k _ hk => (hdA_lo (by omega)).2.1) ?_
    rw [Nat.zero_add]
    have c1 : (csB p).drop p = [2, 0] := by unfold csB; rw [List.drop_left' (by simp)]
    have c2 : (noOp l (p + 1) v).drop p = op :: { oq with op := .assign (.const v) } :: tl := by
      rw [List.drop_eq_getElem_cons (by rw [noOp_len]; omega), List.drop_eq_getElem_cons (by rw [noOp_len]; omega), hdB' v]
      have d1 : (noOp l (p + 1) v)[p]'(by rw [noOp_len]; omega) = op := by
        have := List.getElem?_eq_getElem (l := noOp l (p + 1) v) (i := p) (by rw [noOp_len]; omega)
        rw [noOp_ne (by omega), hp] at this; exact (Option.some.inj this).symm
      have d2 : (noOp l (p + 1) v)[p + 1]'(by rw [noOp_len]; omega) = { oq with op := .assign (.const v) } := by
        have := List.getElem?_eq_getElem (l := noOp l (p + 1) v) (i := p + 1) (by rw [noOp_len]; omega)
        rw [noOp_at hq] at this; exact (Option.some.inj this).symm
      rw [d1, d2]
    rw [c1, c2]
    unfold KDM
    show ∃ g R, _
    refine ⟨true, Rp', guardOf_none hgp, by rw [hdp]; exact hNp, fun _ => by rw [namesOf_none hgp] at hEp' ⊢; exact hEp', (fun e => by cases e), fun v2 σ2 hr2 => ?_⟩
    obtain ⟨k3, k4⟩ := k2 v2 σ2 hr2
    refine ⟨k3, ?_⟩
    unfold KDM
    show KDM C _ _ _ _ _ [] _ _ _
    unfold KDM
    rw [hdB' v]
    show KO C (noOp l (p + 1) v) Q tl (pushFr op.dst true v2 ((dq, true, v) :: frs (p + 2))) σ2
    rw [hdp]
    exact k4
  refine wpIn_region_any C.T.mixed ?_
  have hf : ∀ i, (Array.replicate l.toArray.size false).getD i false = false := fun i => by
    rw [Array.getD_eq_getD_getElem?]
    rcases Nat.lt_or_ge i l.length with h | h
    · simp [h]
    · simp [h]
  have hid : ∀ i, ¬ (Array.replicate l.toArray.size false).getD i false = true := fun i => by rw [hf]; simp
  refine any_P hq hdq hNq hgn hCA hTA hCB hTB hRA (by rw [e1]; exact hS.fr) hS.own.has.nodup hEq hgoB' _ (p + 1) _ a _ ?_ ?_ (hf _) (hf _) ⟨by simp [depL_len], fun i o ho hl => absurd hl (hid i), fun i _ => hf i, hS.n, Nat.zero_le _, fun i _ _ => ?_, (fun h => by cases h), fun s k o _ hl => absurd hl (hid k), fun s k o g v _ hl => absurd hl (hid k), fun s _ => rfl, fun s _ => rfl, ⟨hS.own.os, hS.own.tape, hS.own.output, hS.own.size, hS.own.old, ⟨hS.own.has.has, hS.own.has.nodup⟩, hS.own.new⟩, hS.defs, hS.hid, fun p hp => hp, hgoA⟩
  · have e : ((List.range (p + 2)).filter fun i => !(Array.replicate l.toArray.size false).getD i false) = List.range (p + 2) := by
      rw [List.filter_eq_self]; intro i _; rw [hf]; rfl
    rw [e]
    simp
  · simp
    omega
  · rw [hf]; simp
end
end Go.K
