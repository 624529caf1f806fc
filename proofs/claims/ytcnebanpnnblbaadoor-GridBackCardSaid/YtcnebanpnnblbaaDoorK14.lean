/- The program logic, fourteenth part: statements whose order is open, with one effect in the middle: what is ahead of it and what is behind it in whatever order. -/
import Derived.Test.YtcnebanpnnblbaaDoorK13
namespace Go.K
open Go Go.RowKit

section
variable {C : Cx} {ops : List Oper} {Q : KQ} {σ : Heap} {t m : Nat} {o : Oper} {rest : List Oper} {fr : Fr} {d : Nat} {g : Bool} {v : Value}

structure ChkB (ops : List Oper) (t m : Nat) : Prop where
  low : ∀ i o, ops[i]? = some o → ∀ j ∈ depsOf o, j < i
  pair : ∀ i o k ok s, t ≤ i → i < m → t ≤ k → k < m → ops[i]? = some o → ops[k]? = some ok → ok.dst = some s → i ≠ k → (s ∈ namesOf ops o ∨ o.dst = some s) → if k < i then Bef ops k i else Bef ops i k
  tail : ∀ i o k, m ≤ i → ops[i]? = some o → t ≤ k → k < m → Bef ops k i

structure RunB (C : Cx) (ops : List Oper) (σ : Heap) (t m : Nat) (gs : Nat → Bool) (vs : Nat → Value) (frs : Nat → Fr) : Prop where
  at_ : ∀ k o, t ≤ k → k < m → ops[k]? = some o → (guardOf ops (LR (namesOf ops o) (look (frs k))) o = some (gs k) ∨ guardIn ops (LR (namesOf ops o) (look (frs k))) o = some (gs k)) ∧ okDst C.N o.dst = true ∧
    Qt C (LR (namesOf ops o) (look (frs k))) σ (gs k) o (vs k) ∧ frs (k + 1) = pushFr o.dst (gs k) (vs k) (frs k)

def SrcB (ops : List Oper) (t : Nat) (gs : Nat → Bool) (vs : Nat → Value) (frs : Nat → Fr) (i s : Nat) (g : Bool) (v : Value) : Prop :=
    (∃ k o, t ≤ k ∧ k < i ∧ ops[k]? = some o ∧ o.dst = some s ∧ g = gs k ∧ v = vs k ∧ ∀ k' o', t ≤ k' → k' < i → ops[k']? = some o' → o'.dst = some s → k' ≤ k) ∨
    ((∀ k o, t ≤ k → k < i → ops[k]? = some o → o.dst ≠ some s) ∧ look (frs t) s = some (g, v))
theorem RunB.src {gs : Nat → Bool} {vs : Nat → Value} {frs : Nat → Fr} (h : RunB C ops σ t m gs vs frs) (hm : m ≤ ops.length) : ∀ n, t + n ≤ m → ∀ s g v, look (frs (t + n)) s = some (g, v) → SrcB ops t gs vs frs (t + n) s g v
  | 0, _, s, g, v, hl => .inr ⟨fun k o hk hk2 => by omega, hl⟩
  | n + 1, hi, s, g, v, hl => by
    have ho : ops[t + n]? = some ops[t + n] := List.getElem?_eq_getElem (by omega)
    obtain ⟨_, _, _, h4⟩ := h.at_ (t + n) _ (by omega) (by omega) ho
    rw [show t + (n + 1) = t + n + 1 by omega] at hl ⊢
    rw [h4] at hl
    have old : look (frs (t + n)) s = some (g, v) → ops[t + n].dst ≠ some s → SrcB ops t gs vs frs (t + n + 1) s g v := fun hl' hne => by
      have ih := RunB.src h hm n (by omega) s g v hl'
      rcases ih with ⟨k, o, a0, a1, a2, a3, a4, a5, a6⟩ | ⟨a1, a2⟩
      · refine Or.inl ⟨k, o, a0, by omega, a2, a3, a4, a5, fun k' o' hk0 hk' ho' hd' => ?_⟩
        by_cases e : k' = t + n
        · subst e; rw [ho] at ho'; rw [← Option.some.inj ho'] at hd'; exact absurd hd' hne
        · exact a6 k' o' hk0 (by omega) ho' hd'
      · refine Or.inr ⟨fun k o hk0 hk hok hd => ?_, a2⟩
        by_cases e : k = t + n
        · subst e; rw [ho] at hok; rw [← Option.some.inj hok] at hd; exact absurd hd hne
        · exact a1 k o hk0 (by omega) hok hd
    cases hd : ops[t + n].dst with
    | none => rw [hd] at hl; exact old hl (by rw [hd]; simp)
    | some d =>
      rw [hd] at hl
      simp only [pushFr] at hl
      unfold look at hl
      cases hb : Nat.beq d s with
      | true =>
        rw [hb] at hl
        simp only [cond_true, Option.some.injEq, Prod.mk.injEq] at hl
        have e := Nat.eq_of_beq_eq_true hb
        subst e
        exact .inl ⟨t + n, ops[t + n], by omega, by omega, ho, hd, hl.1.symm, hl.2.symm, fun k' _ _ hk' _ _ => by omega⟩
      | false =>
        rw [hb] at hl
        exact old hl (by rw [hd]; intro e; rw [Option.some.inj e] at hb; simp at hb)

/-- The state when the listed ones have been carried out: all ahead of t, none behind m. -/
structure InvB (C : Cx) (ops : List Oper) (σ : Heap) (t m : Nat) (gs : Nat → Bool) (vs : Nat → Value) (a0 : Act) (L : Array Bool) (a : Act) (w : World) : Prop where
  size : L.size = ops.length
  closed : ∀ i o, ops[i]? = some o → L.getD i false = true → ∀ j ∈ depsOf o, L.getD j false = true
  base : ∀ i, i < t → L.getD i false = true
  pre : ∀ i, m ≤ i → L.getD i false = false
  n : a.tmps.size = C.N
  wrote : ∀ s k o, t ≤ k → L.getD k false = true → ops[k]? = some o → o.dst = some s → (∀ k' o', t ≤ k' → L.getD k' false = true → ops[k']? = some o' → o'.dst = some s → k' ≤ k) → a.tmps[s]? = some (gv (gs k) (vs k))
  kept : ∀ s, (∀ k o, t ≤ k → L.getD k false = true → ops[k]? = some o → o.dst ≠ some s) → a.tmps[s]? = a0.tmps[s]?
  own : Own C.E σ w
  defs : Defs C σ a w
  hid : Hid C σ w

theorem InvB.next {gs : Nat → Bool} {vs : Nat → Value} {a0 a : Act} {L : Array Bool} {w w' : World} {i : Nat} (hC : ChkB ops t m) (hI : InvB C ops σ t m gs vs a0 L a w) (hti : t ≤ i) (hi : i < m) (ho : ops[i]? = some o) (hun : L.getD i false = false) (hd : ∀ j ∈ depsOf o, L.getD j false = true)
    (hok : okDst C.N o.dst = true) (hb : Below w.heap.size w w') : InvB C ops σ t m gs vs a0 (L.setIfInBounds i true) (a.put o.dst (gv (gs i) (vs i))) w' := by
  have hil : i < L.size := by rw [hI.size]; exact (List.getElem?_eq_some_iff.1 ho).1
  have hst := Stp.of_below hb hI.own.has
  have hlow : ∀ k ok s, t ≤ k → L.getD k false = true → ops[k]? = some ok → ok.dst = some s → o.dst = some s → k < i := fun k ok s htk hk hok' hks his => by
    have hkm : k < m := by
      rcases Nat.lt_or_ge k m with h | h
      · exact h
      · rw [hI.pre k h] at hk; cases hk
    have hne : i ≠ k := fun e => by subst e; rw [hun] at hk; cases hk
    have h1 := hC.pair k ok i o s htk hkm hti hi hok' ho his (Ne.symm hne) (.inr hks)
    by_cases hlt : i < k
    · rw [if_pos hlt] at h1
      have := h1.listed hI.closed hk
      rw [hun] at this; cases this
    · omega
  refine ⟨by simpa using hI.size, fun k ok hk hl j hj => ?_, fun k hk => ?_, fun k hk => ?_, by rw [put_size]; exact hI.n, fun s k ok htk hl hk hks hmax => ?_, fun s hno => ?_, hI.own.step hst, ?_, hI.hid.step hst⟩
  · rw [getD_set hil] at hl ⊢
    by_cases e : j = i
    · rw [if_pos e]
    · rw [if_neg e]
      by_cases e2 : k = i
      · subst e2; rw [ho] at hk; rw [← Option.some.inj hk] at hj; exact hd j hj
      · rw [if_neg e2] at hl; exact hI.closed k ok hk hl j hj
  · rw [getD_set hil]; split
    · rfl
    · exact hI.base k hk
  · rw [getD_set hil, if_neg (by omega)]; exact hI.pre k hk
  · rw [okDst_put hI.n hok]
    by_cases e2 : k = i
    · subst e2
      rw [ho] at hk
      rw [Option.some.inj hk, if_pos hks]
    · rw [getD_set hil, if_neg e2] at hl
      have hne : o.dst ≠ some s := fun his => by
        have h1 := hlow k ok s htk hl hk hks his
        have h2 := hmax i o hti (by rw [getD_set hil, if_pos rfl]) ho his
        omega
      rw [if_neg hne]
      exact hI.wrote s k ok htk hl hk hks (fun k' o' ht' hl' hk' hs' => hmax k' o' ht' (by rw [getD_set hil]; split <;> simp_all) hk' hs')
  · rw [okDst_put hI.n hok, if_neg (hno i o hti (by rw [getD_set hil, if_pos rfl]) ho)]
    exact hI.kept s (fun k ok ht' hl hk => hno k ok ht' (by rw [getD_set hil]; split <;> simp_all) hk)
  · obtain ⟨dl, h1, h2, h3⟩ := hI.defs.step hst
    refine ⟨dl, ?_, h2, h3⟩
    cases o.dst <;> exact h1

theorem InvB.names {gs : Nat → Bool} {vs : Nat → Value} {frs : Nat → Fr} {a0 a : Act} {L : Array Bool} {w : World} {i : Nat} (hC : ChkB ops t m) (hm : m ≤ ops.length) (hR : RunB C ops σ t m gs vs frs) (h0 : LOk (look (frs t)) a0) (hI : InvB C ops σ t m gs vs a0 L a w) (hti : t ≤ i) (hi : i < m)
    (ho : ops[i]? = some o) (hun : L.getD i false = false) (hd : ∀ j ∈ depsOf o, L.getD j false = true) : LOk (LR (namesOf ops o) (look (frs i))) a := by
  intro s g v hs
  obtain ⟨hn, hl⟩ := LR_some hs
  have hlow : ∀ k ok, t ≤ k → L.getD k false = true → ops[k]? = some ok → ok.dst = some s → k < i := fun k ok htk hk hok' hks => by
    have hkm : k < m := by
      rcases Nat.lt_or_ge k m with h | h
      · exact h
      · rw [hI.pre k h] at hk; cases hk
    have hne : i ≠ k := fun e => by subst e; rw [hun] at hk; cases hk
    have h1 := hC.pair i o k ok s hti hi htk hkm ho hok' hks hne (.inl hn)
    by_cases hlt : k < i
    · exact hlt
    · rw [if_neg hlt] at h1
      have := h1.listed hI.closed hk
      rw [hun] at this; cases this
  obtain ⟨n, rfl⟩ : ∃ n, i = t + n := ⟨i - t, by omega⟩
  rcases hR.src hm n (by omega) s g v hl with ⟨k, ok, a0', a1, a2, a3, rfl, rfl, a6⟩ | ⟨a1, a2⟩
  · have h1 := hC.pair (t + n) o k ok s hti hi a0' (by omega) ho a2 a3 (by omega) (.inl hn)
    rw [if_pos a1] at h1
    exact hI.wrote s k ok a0' (h1.listed' hI.closed ho hd) a2 a3 (fun k' o' ht' hk' ho' hs' => a6 k' o' ht' (hlow k' o' ht' hk' ho' hs') ho' hs')
  · rw [hI.kept s (fun k ok ht' hk hok' hks => a1 k ok ht' (hlow k ok ht' hk hok' hks) hok' hks)]
    exact h0 s g v a2

theorem any_headB {gs : Nat → Bool} {vs : Nat → Value} {frs : Nat → Fr} {a0 : Act} (hC : ChkB ops t m) (htm : t ≤ m) (hm : m ≤ ops.length) (hR : RunB C ops σ t m gs vs frs) (h0 : LOk (look (frs t)) a0)
    (hK : ∀ L a w, L.size = ops.length → (∀ k, L.getD k false = decide (k < m)) → St C (frs m) σ a w → wpAnyIn (fnc C.r) 0 C.P .any ops.toArray (lift C Q) (ops.length - m) L a w) : ∀ (f c : Nat) (L : Array Bool) (a : Act) (w : World),
    c = ((List.range m).filter fun i => !L.getD i false).length → f = c + (ops.length - m) → InvB C ops σ t m gs vs a0 L a w → wpAnyIn (fnc C.r) 0 C.P .any ops.toArray (lift C Q) f L a w
  | f, 0, L, a, w, hc, hf, hI => by
    have hall : ∀ i, i < m → L.getD i false = true := fun i hi => by
      have he : ((List.range m).filter fun i => !L.getD i false) = [] := List.eq_nil_of_length_eq_zero hc.symm
      have := (List.filter_eq_nil_iff.1 he) i (List.mem_range.2 hi)
      simpa using this
    have hf' : f = ops.length - m := by omega
    subst hf'
    refine hK L a w hI.size (fun k => ?_) ⟨hI.n, fun s g v hl => ?_, hI.own, hI.defs, hI.hid⟩
    · by_cases hk : k < m
      · simp [hall k hk, hk]
      · simp [hI.pre k (by omega), hk]
    · obtain ⟨n, rfl⟩ : ∃ n, m = t + n := ⟨m - t, by omega⟩
      rcases hR.src hm n (Nat.le_refl _) s g v hl with ⟨k, ok, a0', a1, a2, a3, rfl, rfl, a6⟩ | ⟨a1, a2⟩
      · exact hI.wrote s k ok a0' (hall k a1) a2 a3 (fun k' o' ht' hk' ho' hs' => a6 k' o' ht' (by
          rcases Nat.lt_or_ge k' (t + n) with h | h
          · exact h
          · rw [hI.pre k' h] at hk'; cases hk') ho' hs')
      · rw [hI.kept s (fun k ok ht' hk hok' hks => a1 k ok ht' (by
          rcases Nat.lt_or_ge k (t + n) with h | h
          · exact h
          · rw [hI.pre k h] at hk; cases hk) hok' hks)]
        exact h0 s g v a2
  | 0, c + 1, L, a, w, hc, hf, hI => by omega
  | f + 1, c + 1, L, a, w, hc, hf, hI => by
    obtain ⟨u, hu, hun⟩ : ∃ u, u < m ∧ L.getD u false = false := by
      have : ((List.range m).filter fun i => !L.getD i false) ≠ [] := fun e => by rw [e] at hc; simp at hc
      obtain ⟨u, hu⟩ := List.exists_mem_of_ne_nil _ this
      rw [List.mem_filter] at hu
      exact ⟨u, List.mem_range.1 hu.1, by simpa using hu.2⟩
    have hut : t ≤ u := by
      rcases Nat.lt_or_ge u t with h | h
      · rw [hI.base u h] at hun; cases hun
      · exact h
    have hhead : ∀ i ∈ Region.ready .any ops.toArray L, i < m := fun i hi => by
      obtain ⟨h1, o, ho, hd⟩ := mem_ready' hi
      rcases Nat.lt_or_ge i m with h | h
      · exact h
      · have hb := hC.tail i o u h ho hut hu
        have := hb.listed' hI.closed ho hd
        rw [hun] at this; cases this
    refine ⟨fun he => ?_, fun i hi => ?_⟩
    · exfalso
      have key : ∀ n u, u < n → u < m → L.getD u false = false → False := by
        intro n
        induction n with
        | zero => intro u hu; omega
        | succ n ih =>
          intro u hu hum hun
          have ho : ops[u]? = some ops[u] := List.getElem?_eq_getElem (by omega)
          by_cases hd : ∀ j ∈ depsOf ops[u], L.getD j false = true
          · have := ready_of (getD_ft (by rw [hI.size]; omega) hun) ho hd
            rw [he] at this; cases this
          · obtain ⟨j, hj⟩ := Classical.not_forall.1 hd
            obtain ⟨hj1, hj2⟩ := Classical.not_imp.1 hj
            have := hC.low u _ ho j hj1
            exact ih j (by omega) (by omega) (by simpa using hj2)
      exact key (u + 1) u (by omega) hu hun
    · have him := hhead i hi
      obtain ⟨h1, o, ho, hd⟩ := mem_ready' hi
      have hun' := getD_tf h1
      have hti : t ≤ i := by
        rcases Nat.lt_or_ge i t with h | h
        · rw [hI.base i h] at hun'; cases hun'
        · exact h
      obtain ⟨g1, g2, g3, g4⟩ := hR.at_ i o hti him ho
      have hL := hI.names hC hm hR h0 hti him ho hun' hd
      have hcnt : c = ((List.range m).filter fun k => !(L.setIfInBounds i true).getD k false).length := by
        have hil : i < L.size := by rw [hI.size]; exact (List.getElem?_eq_some_iff.1 ho).1
        have e1 : ((List.range m).filter fun k => !(L.setIfInBounds i true).getD k false) = ((List.range m).filter fun k => !L.getD k false).filter (fun k => k != i) := by
          rw [List.filter_filter]
          apply List.filter_congr
          intro k _
          rw [getD_set hil]
          by_cases e : k = i
          · subst e; simp
          · simp [e]
        have hmem : i ∈ (List.range m).filter fun k => !L.getD k false := List.mem_filter.2 ⟨List.mem_range.2 him, by simpa using hun'⟩
        have hnd : ((List.range m).filter fun k => !L.getD k false).Nodup := List.nodup_range.filter _
        rw [e1, ← hnd.erase_eq_filter, List.length_erase_of_mem hmem]
        omega
      have hnext : ∀ w', Below w.heap.size w w' → wpAnyIn (fnc C.r) 0 C.P .any ops.toArray (lift C Q) f (L.setIfInBounds i true) (a.put o.dst (gv (gs i) (vs i))) w' := fun w' hb =>
        any_headB hC htm hm hR h0 hK f c _ _ w' hcnt (by omega) (hI.next hC hti him ho hun' hd g2 hb)
      unfold wpOpIn
      simp only [List.getElem?_toArray, ho]
      have hw : Region.wanted o (yielded ops.toArray a.tmps) = gs i := by
        rcases g1 with g1 | g1
        · exact guardOf_ok hL g1
        · exact guardIn_ok hL g1
      rw [hw]
      cases hgi : gs i with
      | true =>
        rw [if_pos rfl]
        rw [hgi] at g3
        refine (g3.eff hL hI.own).wpIn ?_
        rintro x w' ⟨rfl, hb⟩
        have := hnext w' hb
        rw [hgi] at this
        exact this
      | false =>
        rw [if_neg (by simp)]
        refine ⟨fun _ _ => trivial, ?_⟩
        have := hnext w (Below.refl _ _)
        rw [hgi] at this
        exact this

/-! ### The judgement -/
/-- The first m quiet, then one effect, then n quiet ones (then nothing). -/
def KDE (C : Cx) (ops : List Oper) (Q : KQ) (σ : Heap) (n : Nat) : Nat → List Oper → Fr → Prop
  | 0, [], _ => False
  | 0, o :: rest, fr => ∃ R d, guardOf ops (look fr) o = some true ∧ o.dst = some d ∧ Nat.blt d C.N = true ∧ EO C (look fr) σ o R ∧ ∀ v σ', R v σ' → KD C ops Q σ' n rest ((d, true, v) :: fr)
  | _ + 1, [], _ => False
  | m + 1, o :: rest, fr => ∃ g v, (guardOf ops (LR (namesOf ops o) (look fr)) o = some g ∨ guardIn ops (LR (namesOf ops o) (look fr)) o = some g) ∧ okDst C.N o.dst = true ∧
      Qt C (LR (namesOf ops o) (look fr)) σ g o v ∧ KDE C ops Q σ n m rest (pushFr o.dst g v fr)

theorem KDE.val {n : Nat} (hg : guardOf ops (LR (namesOf ops o) (look fr)) o = some g) (hd : o.dst = some d) (hn : Nat.blt d C.N = true) (hq : Qt C (LR (namesOf ops o) (look fr)) σ g o v) (h : KDE C ops Q σ n m rest ((d, g, v) :: fr)) : KDE C ops Q σ n (m + 1) (o :: rest) fr :=
  ⟨g, v, .inl hg, by rw [hd]; exact hn, hq, by rw [hd]; exact h⟩
theorem KDE.valIn {n : Nat} (hg : guardIn ops (LR (namesOf ops o) (look fr)) o = some g) (hd : o.dst = some d) (hn : Nat.blt d C.N = true) (hq : Qt C (LR (namesOf ops o) (look fr)) σ g o v) (h : KDE C ops Q σ n m rest ((d, g, v) :: fr)) : KDE C ops Q σ n (m + 1) (o :: rest) fr :=
  ⟨g, v, .inr hg, by rw [hd]; exact hn, hq, by rw [hd]; exact h⟩
theorem KDE.skip {n : Nat} (hg : guardOf ops (LR (namesOf ops o) (look fr)) o = some false) (hd : o.dst = some d) (hn : Nat.blt d C.N = true) (h : KDE C ops Q σ n m rest ((d, false, undef) :: fr)) : KDE C ops Q σ n (m + 1) (o :: rest) fr :=
  ⟨false, undef, .inl hg, (by rw [hd]; exact hn), (fun _ _ _ _ e => by cases e), (by rw [hd]; exact h)⟩
/-- The effect. -/
theorem KDE.eo {n : Nat} {R : Value → Heap → Prop} (hg : guardOf ops (look fr) o = some true) (hd : o.dst = some d) (hn : Nat.blt d C.N = true) (he : EO C (look fr) σ o R) (h : ∀ v σ', R v σ' → KD C ops Q σ' n rest ((d, true, v) :: fr)) : KDE C ops Q σ n 0 (o :: rest) fr :=
  ⟨R, d, hg, hd, hn, he, h⟩

theorem KDE.run {p : Nat} : ∀ (m : Nat) (l : List Oper) (n : Nat) (fr : Fr), (∀ j, l[j]? = ops[n + j]?) → KDE C ops Q σ p m l fr →
    ∃ (gs : Nat → Bool) (vs : Nat → Value) (frs : Nat → Fr), frs n = fr ∧ m ≤ l.length ∧ (∀ k o, n ≤ k → k < n + m → ops[k]? = some o → (guardOf ops (LR (namesOf ops o) (look (frs k))) o = some (gs k) ∨ guardIn ops (LR (namesOf ops o) (look (frs k))) o = some (gs k)) ∧ okDst C.N o.dst = true ∧
      Qt C (LR (namesOf ops o) (look (frs k))) σ (gs k) o (vs k) ∧ frs (k + 1) = pushFr o.dst (gs k) (vs k) (frs k)) ∧ KDE C ops Q σ p 0 (l.drop m) (frs (n + m))
  | 0, l, n, fr, _, h => ⟨fun _ => true, fun _ => undef, fun _ => fr, rfl, Nat.zero_le _, fun k o h1 h2 => by omega, by simpa using h⟩
  | m + 1, [], n, fr, _, h => h.elim
  | m + 1, o :: rest, n, fr, hl, ⟨g, v, h1, h2, h3, h4⟩ => by
    have h0 : ops[n]? = some o := by have := hl 0; simpa using this.symm
    obtain ⟨gs, vs, frs, e1, e2, e3, e4⟩ := KDE.run m rest (n + 1) _ (fun j => by have := hl (j + 1); simpa [Nat.add_assoc, Nat.add_comm 1 j] using this) h4
    refine ⟨fun k => if k = n then g else gs k, fun k => if k = n then v else vs k, fun k => if k = n then fr else frs k, by simp, by simp; omega, fun k o' k1 k2 ho' => ?_, ?_⟩
    · by_cases hk : k = n
      · subst hk
        have : o' = o := Option.some.inj (ho'.symm.trans h0)
        subst this
        have hne : k + 1 ≠ k := by omega
        simp only [if_true, hne, if_false]
        exact ⟨h1, h2, h3, e1⟩
      · have hne : k + 1 ≠ n := by omega
        simp only [hk, if_false, hne]
        exact e3 k o' (by omega) (by omega) ho'
    · have hne : n + (m + 1) ≠ n := by omega
      simp only [hne, if_false, List.drop_succ_cons]
      rw [show n + (m + 1) = n + 1 + m by omega]
      exact e4

/-! ### The check -/
def chkE (ops : List Oper) (m : Nat) : Bool :=
  let B := masks ops []
  Nat.blt m ops.length &&
  (List.range ops.length).all (fun i => match nth ops i with
    | none => true
    | some o => (depsOf o).all (fun j => decide (j < i)) &&
      (if i < m then (List.range m).all (chkPair ops B i o) else if Nat.beq i m then (List.range m).all (fun k => bit B i k)
       else (List.range (m + 1)).all (fun k => bit B i k) && ((List.range ops.length).all (fun k => Nat.ble k m || chkPair ops B i o k))))

theorem chkPair_ok {i k : Nat} {ok : Oper} {s : Nat} (h : chkPair ops (masks ops []) i o k = true) (hok : ops[k]? = some ok) (hs : ok.dst = some s) (hne : i ≠ k) (hn : s ∈ namesOf ops o ∨ o.dst = some s) : if k < i then Bef ops k i else Bef ops i k := by
  unfold chkPair at h
  rw [nth_eq, hok] at h
  simp only [hs] at h
  have e1 : Nat.beq i k = false := by
    cases hb : Nat.beq i k with
    | false => rfl
    | true => exact absurd (Nat.eq_of_beq_eq_true hb) hne
  have h3 : (if k < i then bit (masks ops []) i k else bit (masks ops []) k i) = true := by
    rcases hn with hn | hn
    · rw [e1, elemB_mem hn] at h; simpa using h
    · rw [e1, hn] at h; simpa using h
  split at h3
  · rename_i hlt; rw [if_pos hlt]; exact bit_ok h3
  · rename_i hlt; rw [if_neg hlt]; exact bit_ok h3

theorem chkE_ok (h : chkE ops m = true) : m < ops.length ∧ ChkB ops 0 m ∧ ChkB ops (m + 1) ops.length ∧ ∀ i o, m < i → ops[i]? = some o → Bef ops m i := by
  unfold chkE at h
  simp only [Bool.and_eq_true, List.all_eq_true, List.mem_range] at h
  obtain ⟨hm, h⟩ := h
  have hm : m < ops.length := Nat.le_of_ble_eq_true hm
  have key : ∀ i o, ops[i]? = some o → (∀ j ∈ depsOf o, j < i) ∧ (i < m → ∀ k, k < m → chkPair ops (masks ops []) i o k = true) ∧ (m ≤ i → ∀ k, k < m → Bef ops k i) ∧
      (m < i → Bef ops m i ∧ ∀ k, m < k → k < ops.length → chkPair ops (masks ops []) i o k = true) := by
    intro i o ho
    have hi := (List.getElem?_eq_some_iff.1 ho).1
    have h1 := h i hi
    rw [nth_eq, ho] at h1
    simp only [Bool.and_eq_true, List.all_eq_true, decide_eq_true_eq] at h1
    refine ⟨h1.1, fun hlt k hk => ?_, fun hge k hk => ?_, fun hgt => ?_⟩
    · have h2 := h1.2
      rw [if_pos hlt] at h2
      exact List.all_eq_true.1 h2 k (List.mem_range.2 hk)
    · have h2 := h1.2
      rw [if_neg (by omega)] at h2
      by_cases e : i = m
      · subst e
        rw [if_pos (by simp)] at h2
        exact bit_ok (List.all_eq_true.1 h2 k (List.mem_range.2 hk))
      · rw [if_neg (by simpa using e)] at h2
        simp only [Bool.and_eq_true, List.all_eq_true, List.mem_range] at h2
        exact bit_ok (h2.1 k (by omega))
    · have h2 := h1.2
      rw [if_neg (by omega), if_neg (by simp; omega)] at h2
      simp only [Bool.and_eq_true, List.all_eq_true, List.mem_range] at h2
      refine ⟨bit_ok (h2.1 m (by omega)), fun k hk hk2 => ?_⟩
      have h3 := h2.2 k hk2
      have e : Nat.ble k m = false := by
        cases hb : Nat.ble k m with
        | false => rfl
        | true => have := Nat.le_of_ble_eq_true hb; omega
      rw [e] at h3
      simpa using h3
  refine ⟨hm, ⟨fun i o ho => (key i o ho).1, fun i o k ok s _ hi _ hk ho hok hs hne hn => chkPair_ok ((key i o ho).2.1 hi k hk) hok hs hne hn, fun i o k hi ho _ hk => (key i o ho).2.2.1 hi k hk⟩,
    ⟨fun i o ho => (key i o ho).1, fun i o k ok s hi _ hk hk2 ho hok hs hne hn => chkPair_ok (((key i o ho).2.2.2 hi).2 k hk hk2) hok hs hne hn, fun i o k hi ho _ _ => ?_⟩, fun i o hi ho => ((key i o ho).2.2.2 hi).1⟩
  have := (List.getElem?_eq_some_iff.1 ho).1
  omega

/-- A statement whose order is open, with one effect in its middle: n operations behind it. -/
theorem KW.drawE {id : Nat} {l : List Oper} (m n : Nat) (hc : chkE l m = true) (hn : Nat.beq l.length (m + 1 + n) = true) (h : KDE C l Q σ n m l fr) : KW C Q (.region id l.toArray true) fr σ := by
  intro a w hS
  obtain ⟨hml, hC1, hC2, hmid⟩ := chkE_ok hc
  have hlen := Nat.eq_of_beq_eq_true hn
  obtain ⟨gs, vs, frs, e1, e2, e3, e4⟩ := KDE.run m l 0 fr (by simp) h
  have hR : RunB C l σ 0 m gs vs frs := ⟨fun k o _ hk ho => e3 k o (Nat.zero_le _) (by omega) ho⟩
  rw [Nat.zero_add] at e4
  refine wpIn_region_any C.T.mixed ?_
  have hf : ∀ i, (Array.replicate l.toArray.size false).getD i false = false := fun i => by
    rw [Array.getD_eq_getD_getElem?]
    rcases Nat.lt_or_ge i l.length with h | h
    · simp [h]
    · simp [h]
  refine any_headB hC1 (Nat.zero_le _) e2 hR (by rw [e1]; exact hS.fr) ?_ _ _ _ a _ rfl ?_ ⟨by simp, fun i o ho hl => ?_, fun i hi => by omega, fun i _ => hf i, hS.n, fun s k o _ hl => ?_, fun s _ => rfl, ?_, ?_, hS.hid⟩
  · -- the effect, alone ready
    intro L a w hLs hL hS
    have ho : l[m]? = some l[m] := List.getElem?_eq_getElem hml
    have hd : l.drop m = l[m] :: l.drop (m + 1) := List.drop_eq_getElem_cons hml
    rw [hd] at e4
    obtain ⟨R, d, g1, g2, g3, g4, g5⟩ := e4
    have hf1 : l.length - m = n + 1 := by omega
    rw [hf1]
    have hrdy : m ∈ Region.ready .any l.toArray L := ready_of (getD_ft (by omega) (by rw [hL]; simp)) ho (fun j hj => by rw [hL]; have := hC1.low m _ ho j hj; simpa using this)
    refine ⟨(fun he => by rw [he] at hrdy; cases hrdy), fun i hi => ?_⟩
    obtain ⟨h1, o, hoi, hdi⟩ := mem_ready' hi
    have hcl : ∀ i o, l[i]? = some o → L.getD i false = true → ∀ j ∈ depsOf o, L.getD j false = true := fun i o ho' hl j hj => by
      rw [hL] at hl ⊢
      have := hC1.low i o ho' j hj
      simp only [decide_eq_true_eq] at hl ⊢
      omega
    have him : i = m := by
      have hge : m ≤ i := by
        have := hL i
        rw [getD_tf h1] at this
        simpa using this.symm
      by_cases e : i = m
      · exact e
      · have := (hmid i o (by omega) hoi).listed' hcl hoi hdi
        rw [hL] at this
        simp at this
    subst him
    unfold wpOpIn
    simp only [List.getElem?_toArray, ho]
    rw [guardOf_ok hS.fr g1, if_pos rfl]
    refine (g4 a w hS.fr hS.own).wpIn ?_
    rintro v w' ⟨σ', hp, hs⟩
    rw [g2]
    have hS2 := (hS.put (g := true) (v := v) g3).step hs
    have hk := g5 v σ' hp
    obtain ⟨gs2, vs2, frs2, f1, f2, f3, f4⟩ := KD.run n (l.drop (i + 1)) (i + 1) _ (fun j => by simp) hk
    have hR2 : RunB C l σ' (i + 1) l.length gs2 vs2 frs2 := ⟨fun k o hk1 hk2 ho => f3 k o hk1 (by omega) ho⟩
    have hL' : ∀ k, (L.setIfInBounds i true).getD k false = decide (k < i + 1) := fun k => by
      rw [getD_set (by omega), hL]
      by_cases e : k = i
      · subst e; simp
      · simp only [e, if_false]; congr 1; apply propext; omega
    refine any_headB hC2 (by omega) (Nat.le_refl _) hR2 (by rw [f1]; exact hS2.fr) ?_ _ n _ _ _ ?_ (by omega) ⟨by simpa using hLs, fun k ok hk hl j hj => ?_, fun k hk => ?_, fun k hk => ?_, hS2.n, fun s k ok hk hl hok => ?_, fun s _ => rfl, hS2.own, hS2.defs, hS2.hid⟩
    · intro L a w hLs hL hS
      rw [Nat.sub_self]
      refine ⟨List.eq_nil_iff_forall_not_mem.2 fun i hi => ?_, ?_⟩
      · obtain ⟨h1, o, ho, _⟩ := mem_ready' hi
        have := hL i
        rw [getD_tf h1] at this
        have hlt := (List.getElem?_eq_some_iff.1 ho).1
        simp [hlt] at this
      · have e : (l.drop (i + 1)).drop n = [] := by rw [List.drop_drop]; exact List.drop_eq_nil_of_le (by omega)
        rw [e, show i + 1 + n = l.length by omega] at f4
        have := f4 a w hS
        simpa [wpListIn] using this
    · simp only [hL']
      have e : List.range l.length = List.range (i + 1) ++ (List.range n).map (fun x => i + 1 + x) := by rw [hlen, List.range_add]
      rw [e, List.filter_append, List.length_append]
      have e1 : (List.range (i + 1)).filter (fun k => !decide (k < i + 1)) = [] := by
        rw [List.filter_eq_nil_iff]; intro k hk; have := List.mem_range.1 hk; simp [this]
      have e2 : ((List.range n).map (fun x => i + 1 + x)).filter (fun k => !decide (k < i + 1)) = (List.range n).map (fun x => i + 1 + x) := by
        rw [List.filter_eq_self]; intro k hk
        obtain ⟨x, _, rfl⟩ := List.mem_map.1 hk
        simp
      rw [e1, e2]
      simp
    · rw [hL'] at hl ⊢
      have := hC1.low k ok hk j hj
      simp only [decide_eq_true_eq] at hl ⊢
      omega
    · rw [hL']; simpa using hk
    · rw [hL']; simp; omega
    · rw [hL'] at hl
      simp only [decide_eq_true_eq] at hl
      omega
  · have e : ((List.range m).filter fun i => !(Array.replicate l.toArray.size false).getD i false) = List.range m := by
      rw [List.filter_eq_self]; intro i _; rw [hf]; rfl
    rw [e]
    simp
    omega
  · rw [hf] at hl; cases hl
  · rw [hf] at hl; cases hl
  · exact ⟨hS.own.os, hS.own.tape, hS.own.output, hS.own.size, hS.own.old, ⟨hS.own.has.has, hS.own.has.nodup⟩, hS.own.new⟩
  · exact hS.defs
end
end Go.K
