/- The program logic, twenty-fourth part: statements whose order is open, in stretches: each stretch is ordered behind the one ahead of it. -/
import Derived.Test.YteehbjdohionlaaDoorK23
namespace Go.K
open Go Go.RowKit

section
variable {C : Cx} {ops : List Oper} {Q : KQ} {cs : List Nat} {σ0 ρ : Heap} {t0 : Nat}

/-- What holds of a stretch: those ahead of t0 are done (they have class 2 in 'cs'). -/
structure ChkT (ops : List Oper) (t0 : Nat) (cs : List Nat) : Prop where
  le : cs.length ≤ ops.length
  t0le : t0 ≤ cs.length
  low : ∀ i o, ops[i]? = some o → ∀ j ∈ depsOf o, j < i
  pre : ∀ k, k < t0 → clsAt cs k = 2
  pair : ∀ i o k ok s, t0 ≤ i → i < cs.length → t0 ≤ k → k < cs.length → ops[i]? = some o → ops[k]? = some ok → ok.dst = some s → i ≠ k → (s ∈ namesOf ops o ∨ o.dst = some s) → if k < i then Bef ops k i else Bef ops i k
  tail : ∀ i o k, cs.length ≤ i → ops[i]? = some o → t0 ≤ k → k < cs.length → Bef ops k i
  head : ∀ i o, t0 ≤ i → i < cs.length → ops[i]? = some o → hdB cs i = true → ∀ j ∈ depsOf o, t0 ≤ j → hdB cs j = true
  chain : ∀ i k, t0 ≤ i → i < cs.length → t0 ≤ k → hdB cs i = false → hdB cs k = false → k < i → Bef ops k i
  early : ∀ i k, t0 ≤ i → i < cs.length → clsAt cs i = 3 → k < cs.length → clsAt cs k = 0 → Bef ops k i
theorem ChkT.ge (hC : ChkT ops t0 cs) {k : Nat} (h : hdB cs k = true) : t0 ≤ k := by
  rcases Nat.lt_or_ge k t0 with e | e
  · unfold hdB at h
    rw [hC.pre k e] at h
    cases h
  · exact e
theorem ChkT.befn_lt (hC : ChkT ops t0 cs) : ∀ {n k i : Nat}, BefN ops n k i → k < i
  | 0, k, i, ⟨o, h, hk⟩ => hC.low i o h k hk
  | n + 1, k, i, ⟨o, j, h, hj, hk⟩ => Nat.lt_trans (ChkT.befn_lt hC hk) (hC.low i o h j hj)

/-- What effects of a stretch have told. -/
structure InvT (C : Cx) (ops : List Oper) (t0 : Nat) (σ0 ρ : Heap) (cs : List Nat) (gs : Nat → Bool) (vs : Nat → Value) (frm : Fr) (a0 : Act) (K : Fr → Heap → Prop) (L : Array Bool) (a : Act) (w : World) (t : Nat) (h : Bool) (F : Fr) (σ : Heap) : Prop where
  size : L.size = ops.length
  closed : ∀ i o, ops[i]? = some o → L.getD i false = true → ∀ j ∈ depsOf o, L.getD j false = true
  pre : ∀ i, cs.length ≤ i → L.getD i false = false
  n : a.tmps.size = C.N
  tle : t ≤ cs.length
  done : ∀ i, i < t0 → L.getD i false = true
  tge : t0 ≤ t
  mids : ∀ i, i < cs.length → hdB cs i = false → (L.getD i false = true ↔ i < t)
  hard : h = true → ∃ i, i < t ∧ clsAt cs i = 3
  wrote : ∀ s k o, hdB cs k = true → L.getD k false = true → ops[k]? = some o → o.dst = some s → (∀ k' o', t0 ≤ k' → L.getD k' false = true → ops[k']? = some o' → o'.dst = some s → hdB cs k' = true ∧ k' ≤ k) → a.tmps[s]? = some (gv (gs k) (vs k))
  midw : ∀ s k o g v, t0 ≤ k → hdB cs k = false → L.getD k false = true → ops[k]? = some o → o.dst = some s → look F s = some (g, v) → a.tmps[s]? = some (gv g v)
  midn : ∀ s, (∀ k o, t0 ≤ k → hdB cs k = false → L.getD k false = true → ops[k]? = some o → o.dst ≠ some s) → look F s = look frm s
  kept : ∀ s, (∀ k o, t0 ≤ k → L.getD k false = true → ops[k]? = some o → o.dst ≠ some s) → a.tmps[s]? = a0.tmps[s]?
  own : Own C.E σ w
  defs : Defs C σ a w
  hid : Hid C σ w
  st : ∀ p ∈ hSel σ0 ρ (if h then 1 else 0), p ∈ σ
  go : KDM C ops σ0 ρ K h (cs.drop t) (ops.drop t) F σ
theorem InvT.ge {gs : Nat → Bool} {vs : Nat → Value} {frm F : Fr} {a0 a : Act} {K : Fr → Heap → Prop} {L : Array Bool} {w : World} {t i : Nat} {h : Bool} {σ : Heap} (hI : InvT C ops t0 σ0 ρ cs gs vs frm a0 K L a w t h F σ) (hun : L.getD i false = false) : t0 ≤ i := by
  rcases Nat.lt_or_ge i t0 with e | e
  · have := hI.done i e
    rw [hun] at this; cases this
  · exact e
theorem InvT.low {gs : Nat → Bool} {vs : Nat → Value} {frm F : Fr} {a0 a : Act} {K : Fr → Heap → Prop} {L : Array Bool} {w : World} {t i s : Nat} {h : Bool} {σ : Heap} {o : Oper} (hC : ChkT ops t0 cs) (hI : InvT C ops t0 σ0 ρ cs gs vs frm a0 K L a w t h F σ) (hi : i < cs.length) (ho : ops[i]? = some o) (hun : L.getD i false = false)
    (hn : s ∈ namesOf ops o ∨ o.dst = some s) : ∀ k ok, t0 ≤ k → L.getD k false = true → ops[k]? = some ok → ok.dst = some s → k < i ∧ Bef ops k i   := fun k ok hk0 hk hok hks => by
  have hkm : k < cs.length := by
    rcases Nat.lt_or_ge k cs.length with h | h
    · exact h
    · rw [hI.pre k h] at hk; cases hk
  have hne : i ≠ k := fun e => by subst e; rw [hun] at hk; cases hk
  have h1 := hC.pair i o k ok s (hI.ge hun) hi hk0 hkm ho hok hks hne hn
  by_cases hlt : k < i
  · rw [if_pos hlt] at h1; exact ⟨hlt, h1⟩
  · rw [if_neg hlt] at h1
    have := h1.listed hI.closed hk
    rw [hun] at this; cases this

theorem ChkT.bef_head (hC : ChkT ops t0 cs) {k i : Nat} (hk0 : t0 ≤ k) (h : Bef ops k i) : i < cs.length → hdB cs i = true → hdB cs k = true := by
  obtain ⟨n, hn⟩ := h
  have key : ∀ n i, BefN ops n k i → i < cs.length → hdB cs i = true → k < i ∧ hdB cs k = true := by
    intro n
    induction n with
    | zero =>
      rintro i ⟨o, h, hk⟩ hi hh
      have := hC.low i o h k hk
      exact ⟨this, hC.head i o (by omega) hi h hh k hk hk0⟩
    | succ n ih =>
      rintro i ⟨o, j, h, hj, hk⟩ hi hh
      have := hC.low i o h j hj
      have hkj : k < j := ChkT.befn_lt hC hk
      have h2 := ih j hk (by omega) (hC.head i o (by omega) hi h hh j hj (by omega))
      exact ⟨by omega, h2.2⟩
  exact fun h1 h2 => (key n i hn h1 h2).2

theorem InvT.namesH {gs : Nat → Bool} {vs : Nat → Value} {frs : Nat → Fr} {frm F : Fr} {a0 a : Act} {K : Fr → Heap → Prop} {L : Array Bool} {w : World} {t i : Nat} {h : Bool} {σ : Heap} {o : Oper} (hC : ChkT ops t0 cs) (hR : RunH C ops σ0 ρ cs gs vs frs) (h0 : LOk (look (frs 0)) a0) (hI : InvT C ops t0 σ0 ρ cs gs vs frm a0 K L a w t h F σ) (hi : i < cs.length)
    (hh : hdB cs i = true) (ho : ops[i]? = some o) (hun : L.getD i false = false) (hd : ∀ j ∈ depsOf o, L.getD j false = true) : LOk (LR (namesOf ops o) (look (frs i))) a := by
  intro s g v hs
  obtain ⟨hn, hl⟩ := LR_some hs
  have hlow := hI.low hC hi ho hun (.inl hn)
  rcases hR.src hC.le i (by omega) s g v hl with ⟨k, ok, a1, a0', a2, a3, rfl, rfl, a6⟩ | ⟨a1, a2⟩
  · have hi0 := hI.ge hun
    have hk0 := hC.ge a0'
    have h1 := hC.pair i o k ok s hi0 hi hk0 (by omega) ho a2 a3 (by omega) (.inl hn)
    rw [if_pos a1] at h1
    refine hI.wrote s k ok a0' (h1.listed' hI.closed ho hd) a2 a3 (fun k' o' b0 hk' ho' hs' => ?_)
    obtain ⟨b1, b2⟩ := hlow k' o' b0 hk' ho' hs'
    have b3 := hC.bef_head b0 b2 hi hh
    exact ⟨b3, a6 k' o' b1 b3 ho' hs'⟩
  · rw [hI.kept s (fun k ok b0 hk hok' hks => by
      obtain ⟨b1, b2⟩ := hlow k ok b0 hk hok' hks
      exact a1 k ok b1 (hC.bef_head b0 b2 hi hh) hok' hks)]
    exact h0 s g v a2

theorem InvT.namesM {gs : Nat → Bool} {vs : Nat → Value} {frs : Nat → Fr} {F : Fr} {a0 a : Act} {K : Fr → Heap → Prop} {L : Array Bool} {w : World} {t i : Nat} {h : Bool} {σ : Heap} {o : Oper} (hC : ChkT ops t0 cs) (hR : RunH C ops σ0 ρ cs gs vs frs) (h0 : LOk (look (frs 0)) a0) (hI : InvT C ops t0 σ0 ρ cs gs vs (frs cs.length) a0 K L a w t h F σ) (hi : i < cs.length)
    (hh : hdB cs i = false) (ho : ops[i]? = some o) (hun : L.getD i false = false) (hd : ∀ j ∈ depsOf o, L.getD j false = true) : LOk (LR (namesOf ops o) (look F)) a := by
  intro s g v hs
  obtain ⟨hn, hl⟩ := LR_some hs
  have hlow := hI.low hC hi ho hun (.inl hn)
  by_cases hw : ∃ k ok, t0 ≤ k ∧ hdB cs k = false ∧ L.getD k false = true ∧ ops[k]? = some ok ∧ ok.dst = some s
  · obtain ⟨k, ok, b0, b1, b2, b3, b4⟩ := hw
    exact hI.midw s k ok g v b0 b1 b2 b3 b4 hl
  · have hno : ∀ k ok, t0 ≤ k → hdB cs k = false → L.getD k false = true → ops[k]? = some ok → ok.dst ≠ some s := fun k ok b0 b1 b2 b3 b4 => hw ⟨k, ok, b0, b1, b2, b3, b4⟩
    have hhd : ∀ k ok, t0 ≤ k → L.getD k false = true → ops[k]? = some ok → ok.dst = some s → hdB cs k = true := fun k ok b0 b2 b3 b4 => by
      cases e : hdB cs k with
      | true => rfl
      | false => exact absurd b4 (hno k ok b0 e b2 b3)
    rw [hI.midn s hno] at hl
    rcases hR.src hC.le cs.length (Nat.le_refl _) s g v hl with ⟨k, ok, a1, a0', a2, a3, rfl, rfl, a6⟩ | ⟨a1, a2⟩
    · have hne : i ≠ k := fun e => by subst e; rw [hh] at a0'; cases a0'
      have hi0 := hI.ge hun
      have hk0 := hC.ge a0'
      have h1 := hC.pair i o k ok s hi0 hi hk0 (by omega) ho a2 a3 hne (.inl hn)
      have hki : k < i := by
        by_cases e : k < i
        · exact e
        · rw [if_neg e] at h1
          have := hC.bef_head hi0 h1 a1 a0'
          rw [hh] at this; cases this
      rw [if_pos hki] at h1
      exact hI.wrote s k ok a0' (h1.listed' hI.closed ho hd) a2 a3 (fun k' o' b0 hk' ho' hs' => by
        have b3 := hhd k' o' b0 hk' ho' hs'
        have b1 := hlow k' o' b0 hk' ho' hs'
        exact ⟨b3, a6 k' o' (by omega) b3 ho' hs'⟩)
    · rw [hI.kept s (fun k ok b0 hk hok' hks => by
        have b3 := hhd k ok b0 hk hok' hks
        have b1 := hlow k ok b0 hk hok' hks
        exact a1 k ok (by omega) b3 hok' hks)]
      exact h0 s g v a2

theorem InvT.nextH {gs : Nat → Bool} {vs : Nat → Value} {frm F : Fr} {a0 a : Act} {K : Fr → Heap → Prop} {L : Array Bool} {w w' : World} {t i : Nat} {h : Bool} {σ : Heap} {o : Oper} (hC : ChkT ops t0 cs) (hI : InvT C ops t0 σ0 ρ cs gs vs frm a0 K L a w t h F σ) (hi : i < cs.length) (hh : hdB cs i = true) (ho : ops[i]? = some o) (hun : L.getD i false = false)
    (hd : ∀ j ∈ depsOf o, L.getD j false = true) (hok : okDst C.N o.dst = true) (hb : Below w.heap.size w w') : InvT C ops t0 σ0 ρ cs gs vs frm a0 K (L.setIfInBounds i true) (a.put o.dst (gv (gs i) (vs i))) w' t h F σ := by
  have hil : i < L.size := by rw [hI.size]; exact (List.getElem?_eq_some_iff.1 ho).1
  have hst := Stp.of_below hb hI.own.has
  have hlow : ∀ s, o.dst = some s → ∀ k ok, t0 ≤ k → L.getD k false = true → ops[k]? = some ok → ok.dst = some s → k < i ∧ Bef ops k i := fun s his => hI.low hC hi ho hun (.inr his)
  have hset : ∀ k, L.getD k false = true → (L.setIfInBounds i true).getD k false = true := fun k hk => by rw [getD_set hil]; split <;> simp_all
  refine ⟨by simpa using hI.size, fun k ok hk hl j hj => ?_, fun k hk => ?_, by rw [put_size]; exact hI.n, hI.tle, fun k hk => hset k (hI.done k hk), hI.tge, fun k hk hm => ?_, hI.hard, fun s k ok hkh hl hk hks hmax => ?_, fun s k ok g v hk0 hkh hl hk hks hF => ?_, fun s hno => ?_, fun s hno => ?_, hI.own.step hst, (hI.defs.step hst).put, hI.hid.step hst, hI.st, hI.go⟩
  · rw [getD_set hil] at hl ⊢
    by_cases e : j = i
    · rw [if_pos e]
    · rw [if_neg e]
      by_cases e2 : k = i
      · subst e2; rw [ho] at hk; rw [← Option.some.inj hk] at hj; exact hd j hj
      · rw [if_neg e2] at hl; exact hI.closed k ok hk hl j hj
  · rw [getD_set hil, if_neg (by omega)]; exact hI.pre k hk
  · rw [getD_set hil, if_neg (fun e => by subst e; rw [hh] at hm; cases hm)]; exact hI.mids k hk hm
  · rw [okDst_put hI.n hok]
    by_cases e2 : k = i
    · subst e2
      rw [ho] at hk
      rw [Option.some.inj hk, if_pos hks]
    · rw [getD_set hil, if_neg e2] at hl
      have hne : o.dst ≠ some s := fun his => by
        have h1 := (hlow s his k ok (hC.ge hkh) hl hk hks).1
        have h2 := hmax i o (hI.ge hun) (by rw [getD_set hil, if_pos rfl]) ho his
        omega
      rw [if_neg hne]
      exact hI.wrote s k ok hkh hl hk hks (fun k' o' b0 hl' hk' hs' => hmax k' o' b0 (hset k' hl') hk' hs')
  · have e2 : k ≠ i := fun e => by subst e; rw [hh] at hkh; cases hkh
    rw [getD_set hil, if_neg e2] at hl
    rw [okDst_put hI.n hok]
    have hne : o.dst ≠ some s := fun his => by
      have h1 := (hlow s his k ok hk0 hl hk hks).2
      have := hC.bef_head hk0 h1 hi hh
      rw [hkh] at this; cases this
    rw [if_neg hne]
    exact hI.midw s k ok g v hk0 hkh hl hk hks hF
  · exact hI.midn s (fun k ok b0 hkh hl hk => hno k ok b0 hkh (hset k hl) hk)
  · rw [okDst_put hI.n hok, if_neg (hno i o (hI.ge hun) (by rw [getD_set hil, if_pos rfl]) ho)]
    exact hI.kept s (fun k ok b0 hl hk => hno k ok b0 (hset k hl) hk)

theorem InvT.atM {gs : Nat → Bool} {vs : Nat → Value} {frm F : Fr} {a0 a : Act} {K : Fr → Heap → Prop} {L : Array Bool} {w : World} {t i : Nat} {h : Bool} {σ : Heap} {o : Oper} (hC : ChkT ops t0 cs) (hI : InvT C ops t0 σ0 ρ cs gs vs frm a0 K L a w t h F σ) (hi : i < cs.length) (hh : hdB cs i = false) (ho : ops[i]? = some o) (hun : L.getD i false = false)
    (hd : ∀ j ∈ depsOf o, L.getD j false = true) : t ≤ i ∧ (∀ k, t ≤ k → k < i → hdB cs k = true) ∧ KDM C ops σ0 ρ K h (cs.drop i) (ops.drop i) F σ := by
  have hti : t ≤ i := by
    rcases Nat.lt_or_ge i t with e | e
    · have := (hI.mids i hi hh).2 e
      rw [hun] at this; cases this
    · exact e
  have htg := hI.tge
  have hhd : ∀ k, t ≤ k → k < i → hdB cs k = true := fun k hk1 hk2 => by
    cases e : hdB cs k with
    | true => rfl
    | false =>
      have h1 := hC.chain i k (by omega) hi (by omega) hh e hk2
      have h2 := h1.listed' hI.closed ho hd
      have := (hI.mids k (by omega) e).1 h2
      omega
  refine ⟨hti, hhd, ?_⟩
  have := KDM.skip hC.le (i - t) t (by omega) (fun k h1 h2 => hhd k h1 (by omega)) hI.go
  rwa [show t + (i - t) = i by omega] at this

theorem InvT.nextM {gs : Nat → Bool} {vs : Nat → Value} {frm F : Fr} {a0 a : Act} {K : Fr → Heap → Prop} {L : Array Bool} {w w' : World} {t i : Nat} {h : Bool} {σ σ' : Heap} {o : Oper} {g : Bool} {v : Value} (hI : InvT C ops t0 σ0 ρ cs gs vs frm a0 K L a w t h F σ) (hi : i < cs.length) (hh : hdB cs i = false) (ho : ops[i]? = some o)
    (hd : ∀ j ∈ depsOf o, L.getD j false = true) (hok : okDst C.N o.dst = true) (hti : t ≤ i) (hhd : ∀ k, t ≤ k → k < i → hdB cs k = true) (hs : Stp σ σ' w w')
    (hst' : ∀ p ∈ hSel σ0 ρ (if h || Nat.beq (clsAt cs i) 3 then 1 else 0), p ∈ σ') (hgo : KDM C ops σ0 ρ K (h || Nat.beq (clsAt cs i) 3) (cs.drop (i + 1)) (ops.drop (i + 1)) (pushFr o.dst g v F) σ') :
    InvT C ops t0 σ0 ρ cs gs vs frm a0 K (L.setIfInBounds i true) (a.put o.dst (gv g v)) w' (i + 1) (h || Nat.beq (clsAt cs i) 3) (pushFr o.dst g v F) σ' := by
  have hi0 : t0 ≤ i := Nat.le_trans hI.tge hti
  have hil : i < L.size := by rw [hI.size]; exact (List.getElem?_eq_some_iff.1 ho).1
  have hset : ∀ k, L.getD k false = true → (L.setIfInBounds i true).getD k false = true := fun k hk => by rw [getD_set hil]; split <;> simp_all
  have hseti : (L.setIfInBounds i true).getD i false = true := by rw [getD_set hil, if_pos rfl]
  refine ⟨by simpa using hI.size, fun k ok hk hl j hj => ?_, fun k hk => ?_, by rw [put_size]; exact hI.n, by omega, fun k hk => hset k (hI.done k hk), by omega, fun k hk hm => ?_, fun he => ?_, fun s k ok hkh hl hk hks hmax => ?_, fun s k ok g' v' hk0 hkh hl hk hks hF => ?_, fun s hno => ?_, fun s hno => ?_, hI.own.step hs, (hI.defs.step hs).put, hI.hid.step hs, hst', hgo⟩
  · rw [getD_set hil] at hl ⊢
    by_cases e : j = i
    · rw [if_pos e]
    · rw [if_neg e]
      by_cases e2 : k = i
      · subst e2; rw [ho] at hk; rw [← Option.some.inj hk] at hj; exact hd j hj
      · rw [if_neg e2] at hl; exact hI.closed k ok hk hl j hj
  · rw [getD_set hil, if_neg (by omega)]; exact hI.pre k hk
  · rw [getD_set hil]
    by_cases e : k = i
    · subst e; simp
    · rw [if_neg e, hI.mids k hk hm]
      constructor
      · intro h1; omega
      · intro h1
        rcases Nat.lt_or_ge k t with h2 | h2
        · exact h2
        · have := hhd k h2 (by omega)
          rw [hm] at this; cases this
  · cases hhb : h with
    | true => obtain ⟨j, h1, h2⟩ := hI.hard hhb; exact ⟨j, by omega, h2⟩
    | false =>
      rw [hhb, Bool.false_or] at he
      exact ⟨i, by omega, Nat.eq_of_beq_eq_true he⟩
  · rw [okDst_put hI.n hok]
    have e2 : k ≠ i := fun e => by subst e; rw [hh] at hkh; cases hkh
    rw [getD_set hil, if_neg e2] at hl
    have hne : o.dst ≠ some s := fun his => by
      have h2 := (hmax i o hi0 hseti ho his).1
      rw [hh] at h2; cases h2
    rw [if_neg hne]
    exact hI.wrote s k ok hkh hl hk hks (fun k' o' b0 hl' hk' hs' => hmax k' o' b0 (hset k' hl') hk' hs')
  · rw [okDst_put hI.n hok]
    rw [look_push] at hF
    by_cases e : o.dst = some s
    · rw [if_pos e] at hF ⊢
      simp only [Option.some.injEq, Prod.mk.injEq] at hF
      obtain ⟨rfl, rfl⟩ := hF
      rfl
    · rw [if_neg e] at hF ⊢
      have e2 : k ≠ i := fun e3 => by subst e3; rw [ho] at hk; rw [Option.some.inj hk] at e; exact e hks
      rw [getD_set hil, if_neg e2] at hl
      exact hI.midw s k ok g' v' hk0 hkh hl hk hks hF
  · rw [look_push, if_neg (hno i o hi0 hh hseti ho)]
    exact hI.midn s (fun k ok b0 hkh hl hk => hno k ok b0 hkh (hset k hl) hk)
  · rw [okDst_put hI.n hok, if_neg (hno i o hi0 hseti ho)]
    exact hI.kept s (fun k ok b0 hl hk => hno k ok b0 (hset k hl) hk)

theorem any_midT {KT : Fr → Heap → Prop} {gs : Nat → Bool} {vs : Nat → Value} {frs : Nat → Fr} {a0 : Act} (hC : ChkT ops t0 cs) (hR : RunH C ops σ0 ρ cs gs vs frs) (h0 : LOk (look (frs 0)) a0) (hn0 : (keys σ0).Nodup) (hnρ : (keys ρ).Nodup) (hρ : ∀ p ∈ ρ, p ∈ σ0)
    (hK : ∀ (L : Array Bool) (a : Act) (w : World) (F : Fr) (σ : Heap), L.size = ops.length → (∀ k, L.getD k false = decide (k < cs.length)) → KT F σ → St C F σ a w → wpAnyIn (fnc C.r) 0 C.P .any ops.toArray (lift C Q) (ops.length - cs.length) L a w) : ∀ (f c : Nat) (L : Array Bool) (a : Act) (w : World) (t : Nat) (h : Bool) (F : Fr) (σ : Heap),
    c = ((List.range cs.length).filter fun i => !L.getD i false).length → f = c + (ops.length - cs.length) → InvT C ops t0 σ0 ρ cs gs vs (frs cs.length) a0 KT L a w t h F σ → wpAnyIn (fnc C.r) 0 C.P .any ops.toArray (lift C Q) f L a w
  | f, 0, L, a, w, t, h, F, σ, hc, hf, hI => by
    have hall : ∀ i, i < cs.length → L.getD i false = true := fun i hi => by
      have he : ((List.range cs.length).filter fun i => !L.getD i false) = [] := List.eq_nil_of_length_eq_zero hc.symm
      have := (List.filter_eq_nil_iff.1 he) i (List.mem_range.2 hi)
      simpa using this
    have hle := hC.le
    have hf2 : f = ops.length - cs.length := by omega
    subst hf2
    have hgo : KT F σ := by
        have hk := KDM.skip hC.le (cs.length - t) t (by have := hI.tle; omega) (fun k hk1 hk2 => by
          cases e : hdB cs k with
          | true => rfl
          | false =>
            have hlt : k < cs.length := by omega
            have := (hI.mids k hlt e).1 (hall k hlt)
            omega) hI.go
        have e1 : t + (cs.length - t) = cs.length := by have := hI.tle; omega
        rw [e1, List.drop_length] at hk
        exact hk.done
    refine hK L a w F σ hI.size (fun k => ?_) hgo ?_
    · by_cases hk : k < cs.length
      · simp [hall k hk, hk]
      · simp [hI.pre k (by omega), hk]
    · refine ⟨hI.n, fun s g v hl => ?_, hI.own, hI.defs, hI.hid⟩
      by_cases hw : ∃ k ok, t0 ≤ k ∧ hdB cs k = false ∧ L.getD k false = true ∧ ops[k]? = some ok ∧ ok.dst = some s
      · obtain ⟨k, ok, b0, b1, b2, b3, b4⟩ := hw
        exact hI.midw s k ok g v b0 b1 b2 b3 b4 hl
      · have hno : ∀ k ok, t0 ≤ k → hdB cs k = false → L.getD k false = true → ops[k]? = some ok → ok.dst ≠ some s := fun k ok b0 b1 b2 b3 b4 => hw ⟨k, ok, b0, b1, b2, b3, b4⟩
        have hhd : ∀ k ok, t0 ≤ k → L.getD k false = true → ops[k]? = some ok → ok.dst = some s → hdB cs k = true := fun k ok b0 b2 b3 b4 => by
          cases e : hdB cs k with
          | true => rfl
          | false => exact absurd b4 (hno k ok b0 e b2 b3)
        have hlt : ∀ k, L.getD k false = true → k < cs.length := fun k hk => by
          rcases Nat.lt_or_ge k cs.length with h | h
          · exact h
          · rw [hI.pre k h] at hk; cases hk
        rw [hI.midn s hno] at hl
        rcases hR.src hC.le cs.length (Nat.le_refl _) s g v hl with ⟨k, ok, a1, a0', a2, a3, rfl, rfl, a6⟩ | ⟨a1, a2⟩
        · exact hI.wrote s k ok a0' (hall k a1) a2 a3 (fun k' o' b0 hk' ho' hs' => by
            have b3 := hhd k' o' b0 hk' ho' hs'
            exact ⟨b3, a6 k' o' (hlt k' hk') b3 ho' hs'⟩)
        · rw [hI.kept s (fun k ok b0 hk hok' hks => a1 k ok (hlt k hk) (hhd k ok b0 hk hok' hks) hok' hks)]
          exact h0 s g v a2
  | 0, c + 1, L, a, w, t, h, F, σ, hc, hf, hI => by omega
  | f + 1, c + 1, L, a, w, t, h, F, σ, hc, hf, hI => by
    have hle := hC.le
    obtain ⟨u, hu, hun⟩ : ∃ u, u < cs.length ∧ L.getD u false = false := by
      have : ((List.range cs.length).filter fun i => !L.getD i false) ≠ [] := fun e => by rw [e] at hc; simp at hc
      obtain ⟨u, hu⟩ := List.exists_mem_of_ne_nil _ this
      rw [List.mem_filter] at hu
      exact ⟨u, List.mem_range.1 hu.1, by simpa using hu.2⟩
    have hhead : ∀ i ∈ Region.ready .any ops.toArray L, i < cs.length := fun i hi => by
      obtain ⟨h1, o, ho, hd⟩ := mem_ready' hi
      rcases Nat.lt_or_ge i cs.length with h | h
      · exact h
      · have hb := hC.tail i o u h ho (hI.ge hun) hu
        have := hb.listed' hI.closed ho hd
        rw [hun] at this; cases this
    refine ⟨fun he => ?_, fun i hi => ?_⟩
    · exfalso
      have key : ∀ n u, u < n → u < cs.length → L.getD u false = false → False := by
        intro n
        induction n with
        | zero => intro u hu; omega
        | succ n ih =>
          intro u hu hum hun
          have ho : ops[u]? = some ops[u] := List.getElem?_eq_getElem (by omega)
          by_cases hd : ∀ j ∈ depsOf ops[u], L.getD j false = true
          · have := ready_of (getD_ft (by rw [hI.size]; omega) hun) ho hd
            rw [he] at this; cases this
          · obtain ⟨j, hj⟩ := Classical.not_forall.1 hd
            obtain ⟨hj1, hj2⟩ := Classical.not_imp.1 hj
            have := hC.low u _ ho j hj1
            exact ih j (by omega) (by omega) (by simpa using hj2)
      exact key (u + 1) u (by omega) hu hun
    · have him := hhead i hi
      obtain ⟨h1, o, ho, hd⟩ := mem_ready' hi
      have hun' := getD_tf h1
      have hcnt : c = ((List.range cs.length).filter fun k => !(L.setIfInBounds i true).getD k false).length := by
        have hil : i < L.size := by rw [hI.size]; exact (List.getElem?_eq_some_iff.1 ho).1
        have e1 : ((List.range cs.length).filter fun k => !(L.setIfInBounds i true).getD k false) = ((List.range cs.length).filter fun k => !L.getD k false).filter (fun k => k != i) := by
          rw [List.filter_filter]
          apply List.filter_congr
          intro k _
          rw [getD_set hil]
          by_cases e : k = i
          · subst e; simp
          · simp [e]
        have hmem : i ∈ (List.range cs.length).filter fun k => !L.getD k false := List.mem_filter.2 ⟨List.mem_range.2 him, by simpa using hun'⟩
        have hnd : ((List.range cs.length).filter fun k => !L.getD k false).Nodup := List.nodup_range.filter _
        rw [e1, ← hnd.erase_eq_filter, List.length_erase_of_mem hmem]
        omega
      unfold wpOpIn
      simp only [List.getElem?_toArray, ho]
      cases hh : hdB cs i with
      | true =>
        obtain ⟨g1, g2, g3, g4⟩ := (hR.at_ i o him ho).yes hh
        have hL := hI.namesH hC hR h0 him hh ho hun' hd
        have hown : Own C.E (hSel σ0 ρ (clsAt cs i)) w := by
          cases hcl : clsAt cs i with
          | zero =>
            cases hhb : h with
            | false =>
              have := hI.st
              rw [hhb] at this
              exact hI.own.take hn0 (fun p hp => this p hp)
            | true =>
              obtain ⟨j, j1, j2⟩ := hI.hard hhb
              have hjl : j < cs.length := by have := hI.tle; omega
              have hj0 : t0 ≤ j := by
                rcases Nat.lt_or_ge j t0 with e | e
                · have := hC.pre j e
                  omega
                · exact e
              have hjh : hdB cs j = false := by unfold hdB; rw [j2]; rfl
              have := (hC.early j i hj0 hjl j2 him hcl).listed hI.closed ((hI.mids j hjl hjh).2 j1)
              rw [hun'] at this; cases this
          | succ n =>
            have := hI.st
            refine hI.own.take hnρ (fun p hp => ?_)
            cases hhb : h with
            | true => rw [hhb] at this; exact this p hp
            | false => rw [hhb] at this; exact this p (hρ p hp)
        have hnext : ∀ w', Below w.heap.size w w' → wpAnyIn (fnc C.r) 0 C.P .any ops.toArray (lift C Q) f (L.setIfInBounds i true) (a.put o.dst (gv (gs i) (vs i))) w' := fun w' hb =>
          any_midT hC hR h0 hn0 hnρ hρ hK f c _ _ w' t h F σ hcnt (by omega) (hI.nextH hC him hh ho hun' hd g2 hb)
        have hw : Region.wanted o (yielded ops.toArray a.tmps) = gs i := by
          rcases g1 with g1 | g1
          · exact guardOf_ok hL g1
          · exact guardIn_ok hL g1
        rw [hw]
        cases hgi : gs i with
        | true =>
          rw [if_pos rfl]
          rw [hgi] at g3
          refine (g3.eff hL hown).wpIn ?_
          rintro x w' ⟨rfl, hb⟩
          have := hnext w' hb
          rw [hgi] at this
          exact this
        | false =>
          rw [if_neg (by simp)]
          refine ⟨fun _ _ => trivial, ?_⟩
          have := hnext w (Below.refl _ _)
          rw [hgi] at this
          exact this
      | false =>
        obtain ⟨hti, hhd, hgo⟩ := hI.atM hC him hh ho hun' hd
        have hL := hI.namesM hC hR h0 him hh ho hun' hd
        have hlt : i < ops.length := by omega
        rw [getI_drop_cls him, List.drop_eq_getElem_cons hlt] at hgo
        unfold KDM at hgo
        have hh' : Nat.ble (clsAt cs i) 1 = false := hh
        rw [hh'] at hgo
        have ho' : ops[i] = o := by
          have : ops[i]? = some ops[i] := List.getElem?_eq_getElem hlt
          rw [this] at ho; exact Option.some.inj ho
        obtain ⟨g, R, k1, k2, k3, k4, k5⟩ := hgo
        rw [ho'] at k1 k2 k3 k5
        have hnext : ∀ v σ' w', R v σ' → Stp σ σ' w w' → wpAnyIn (fnc C.r) 0 C.P .any ops.toArray (lift C Q) f (L.setIfInBounds i true) (a.put o.dst (gv g v)) w' := fun v σ' w' hr hs => by
          obtain ⟨q1, q2⟩ := k5 v σ' hr
          exact any_midT hC hR h0 hn0 hnρ hρ hK f c _ _ w' (i + 1) _ _ σ' hcnt (by omega) (hI.nextM him hh ho hd k2 hti hhd hs q1 q2)
        rw [guardOf_ok hL k1]
        cases hg : g with
        | true =>
          rw [if_pos rfl]
          refine (k3 hg a w hL hI.own).wpIn ?_
          rintro v w' ⟨σ', hr, hs⟩
          have := hnext v σ' w' hr hs
          rw [hg] at this
          exact this
        | false =>
          rw [if_neg (by simp)]
          refine ⟨fun _ _ => trivial, ?_⟩
          have := hnext undef σ w (k4 hg) (Stp.refl hI.own.has)
          rw [hg] at this
          exact this

/-! ### The check of a stretch -/
def chkT (ops : List Oper) (t0 : Nat) (cs : List Nat) : Bool :=
  let B := masks ops []
  let m := cs.length
  Nat.ble m ops.length && Nat.ble t0 m && (List.range t0).all (fun k => Nat.beq (clsAt cs k) 2) &&
  (List.range ops.length).all (fun i => match nth ops i with
    | none => true
    | some o => (depsOf o).all (fun j => decide (j < i)) &&
      (if i < t0 then true else if i < m then (List.range m).all (fun k => Nat.blt k t0 || chkPair ops B i o k) &&
        (if hdB cs i then (depsOf o).all (fun j => Nat.blt j t0 || hdB cs j) else (List.range i).all (fun k => Nat.blt k t0 || (hdB cs k || bit B i k))) &&
        (if Nat.beq (clsAt cs i) 3 then (List.range m).all (fun k => !(Nat.beq (clsAt cs k) 0) || (decide (k < i) && bit B i k)) else true)
      else (List.range m).all (fun k => Nat.blt k t0 || bit B i k)))

theorem blt_false {k t : Nat} (h : t ≤ k) : Nat.blt k t = false := by
  cases hb : Nat.blt k t with
  | false => rfl
  | true =>
    have h7 := Nat.le_of_ble_eq_true hb
    omega
theorem chkT_ok {ops : List Oper} {t0 : Nat} {cs : List Nat} (h : chkT ops t0 cs = true) : ChkT ops t0 cs := by
  unfold chkT at h
  simp only [Bool.and_eq_true, List.all_eq_true, List.mem_range] at h
  obtain ⟨⟨⟨hle, htl⟩, hpre⟩, h⟩ := h
  have hle := Nat.le_of_ble_eq_true hle
  have htl := Nat.le_of_ble_eq_true htl
  have key : ∀ i o, ops[i]? = some o → (∀ j ∈ depsOf o, j < i) ∧ (t0 ≤ i → (i < cs.length → (∀ k, t0 ≤ k → k < cs.length → chkPair ops (masks ops []) i o k = true) ∧
      (if hdB cs i then (depsOf o).all (fun j => Nat.blt j t0 || hdB cs j) else (List.range i).all (fun k => Nat.blt k t0 || (hdB cs k || bit (masks ops []) i k))) = true ∧
      (clsAt cs i = 3 → ∀ k, k < cs.length → clsAt cs k = 0 → bit (masks ops []) i k = true)) ∧ (cs.length ≤ i → ∀ k, t0 ≤ k → k < cs.length → bit (masks ops []) i k = true)) := by
    intro i o ho
    have h1 := h i (List.getElem?_eq_some_iff.1 ho).1
    rw [nth_eq, ho] at h1
    simp only [Bool.and_eq_true, List.all_eq_true, decide_eq_true_eq] at h1
    refine ⟨h1.1, fun ht => ⟨fun hi => ?_, fun hi k hk0 hk => ?_⟩⟩
    · have h2 := h1.2
      rw [if_neg (by omega), if_pos hi] at h2
      simp only [Bool.and_eq_true, List.all_eq_true, List.mem_range] at h2
      refine ⟨fun k hk0 hk => ?_, h2.1.2, fun h3 k hk h0 => ?_⟩
      · have h4 := h2.1.1 k hk
        rw [blt_false hk0] at h4
        simpa using h4
      · have h4 := h2.2
        rw [h3, if_pos (show Nat.beq 3 3 = true from rfl)] at h4
        have h5 := List.all_eq_true.1 h4 k (List.mem_range.2 hk)
        rw [h0] at h5
        have h6 : (decide (k < i) && bit (masks ops []) i k) = true := by simpa using h5
        rw [Bool.and_eq_true] at h6; exact h6.2
    · have h2 := h1.2
      rw [if_neg (by omega), if_neg (by omega)] at h2
      simp only [List.all_eq_true, List.mem_range] at h2
      have h4 := h2 k hk
      rw [blt_false hk0] at h4
      simpa using h4
  refine ⟨hle, htl, fun i o ho => (key i o ho).1, fun k hk => Nat.eq_of_beq_eq_true (hpre k hk), fun i o k ok s hti hi htk hk ho hok hs hne hn => chkPair_ok ((((key i o ho).2 hti).1 hi).1 k htk hk) hok hs hne hn, fun i o k hi ho htk hk => bit_ok (((key i o ho).2 (by omega)).2 hi k htk hk), fun i o hti hi ho hh j hj htj => ?_, fun i k hti hi htk hh hk hlt => ?_, fun i k hti hi h3 hk h0 => ?_⟩
  · have h2 := (((key i o ho).2 hti).1 hi).2.1
    rw [if_pos hh] at h2
    have h3 := List.all_eq_true.1 h2 j hj
    rw [blt_false htj] at h3
    simpa using h3
  · have ho : ops[i]? = some ops[i] := List.getElem?_eq_getElem (by omega)
    have h2 := (((key i _ ho).2 hti).1 hi).2.1
    rw [if_neg (by rw [hh]; simp)] at h2
    have h3 := List.all_eq_true.1 h2 k (List.mem_range.2 hlt)
    rw [hk, blt_false htk] at h3
    exact bit_ok (by simpa using h3)
  · have ho : ops[i]? = some ops[i] := List.getElem?_eq_getElem (by omega)
    exact bit_ok ((((key i _ ho).2 hti).1 hi).2.2 h3 k hk h0)

/-! ### Stretch by stretch -/
/-- The way goes on where all ahead of t have been carried out, and none behind. -/
def KA (C : Cx) (ops : List Oper) (Q : KQ) (t : Nat) (fr : Fr) (σ : Heap) : Prop :=
  ∀ (L : Array Bool) a w, L.size = ops.length → (∀ k, L.getD k false = decide (k < t)) → St C fr σ a w → wpAnyIn (fnc C.r) 0 C.P .any ops.toArray (lift C Q) (ops.length - t) L a w

theorem KW.stretch {id : Nat} {l : List Oper} {fr : Fr} {σ : Heap} (h : KA C l Q 0 fr σ) : KW C Q (.region id l.toArray true) fr σ := by
  intro a w hS
  refine wpIn_region_any C.T.mixed ?_
  have := h (Array.replicate l.toArray.size false) a w.drew (by simp) (fun k => by
    rw [Array.getD_eq_getD_getElem?]
    rcases Nat.lt_or_ge k l.length with h | h
    · simp [h]
    · simp [h]) ⟨hS.n, hS.fr, ⟨hS.own.os, hS.own.tape, hS.own.output, hS.own.size, hS.own.old, ⟨hS.own.has.has, hS.own.has.nodup⟩, hS.own.new⟩, hS.defs, hS.hid⟩
  simpa using this

def chkTl (ops : List Oper) (t : Nat) : Bool :=
  let B := masks ops []
  Nat.ble t ops.length &&
  (List.range ops.length).all (fun i => match nth ops i with
    | none => true
    | some o => (depsOf o).all (fun j => decide (j < i)) && (Nat.blt i t || (List.range i).all (fun k => bit B i k)))
def dropO : Nat → List Oper → Option (List Oper)
  | 0, l => some l
  | n + 1, _ :: l => dropO n l
  | _ + 1, [] => none
theorem dropO_ok : ∀ {n : Nat} {l tl : List Oper}, dropO n l = some tl → l.drop n = tl
  | 0, l, tl, h => by simp only [dropO, Option.some.injEq] at h; simpa using h
  | n + 1, _ :: l, tl, h => by unfold dropO at h; simpa using dropO_ok h
  | _ + 1, [], _, h => by cases h
theorem KA.tail {t : Nat} {fr : Fr} {σ : Heap} {tl : List Oper} (hc : chkTl ops t = true) (ht : dropO t ops = some tl) (h : KO C ops Q tl fr σ) : KA C ops Q t fr σ := by
  intro L a w hs hL hS
  unfold chkTl at hc
  simp only [Bool.and_eq_true, List.all_eq_true, List.mem_range] at hc
  have hle := Nat.le_of_ble_eq_true hc.1
  have key : ∀ i o, ops[i]? = some o → (∀ j ∈ depsOf o, j < i) ∧ (t ≤ i → ∀ k, k < i → bit (masks ops []) i k = true) := fun i o ho => by
    have h1 := hc.2 i (List.getElem?_eq_some_iff.1 ho).1
    rw [nth_eq, ho] at h1
    simp only [Bool.and_eq_true, List.all_eq_true, decide_eq_true_eq] at h1
    refine ⟨h1.1, fun hti k hk => ?_⟩
    have h2 := h1.2
    rw [blt_false hti] at h2
    have h3 := List.all_eq_true.1 (by simpa using h2) k (List.mem_range.2 hk)
    exact h3
  rw [← dropO_ok ht] at h
  exact tail_any (fun i o ho => (key i o ho).1) (fun i o k hi ho hk => bit_ok ((key i o ho).2 hi k hk)) _ t L a w (by omega) (Nat.le_refl _) hs hL (h a w hS)

theorem kdh_pre {K : Fr → Prop} {cs2 : List Nat} {fr : Fr} : ∀ (n : Nat) {l l2 : List Oper}, dropO n l = some l2 → KDH C ops σ0 ρ K cs2 l2 fr → KDH C ops σ0 ρ K (List.replicate n 2 ++ cs2) l fr
  | 0, l, l2, hl, h => by simp only [dropO, Option.some.injEq] at hl; subst hl; simpa using h
  | n + 1, o :: l, l2, hl, h => by
    unfold dropO at hl
    rw [List.replicate_succ, List.cons_append]
    unfold KDH
    exact kdh_pre n hl h
  | n + 1, [], l2, hl, h => by cases hl
/-- A stretch whose order is open (classes as for KW.drawM, behind t0 that are done): then what is behind it. -/
theorem KA.mid {fr : Fr} {σ ρ : Heap} (t0 t1 : Nat) (cs2 js : List Nat) (hc : chkT ops t0 (List.replicate t0 2 ++ cs2) = true) (hs : selA js σ = some ρ) (hn : nodupB js = true) {l : List Oper} (hl : dropO t0 ops = some l) (h1 : Nat.beq (t0 + cs2.length) t1 = true)
    (h : KDH C ops σ ρ (fun fr => KDM C ops σ ρ (fun fr σ => KA C ops Q t1 fr σ) false cs2 l fr σ) cs2 l fr) : KA C ops Q t0 fr σ := by
  intro L a w hLs hL hS
  have hC := chkT_ok hc
  have ht1 := Nat.eq_of_beq_eq_true h1
  have hlen : (List.replicate t0 2 ++ cs2).length = t1 := by simp; exact ht1
  have hd1 : (List.replicate t0 2 ++ cs2).drop t0 = cs2 := by
    have := List.drop_left (l₁ := List.replicate t0 2) (l₂ := cs2)
    rwa [List.length_replicate] at this
  have hd2 := dropO_ok hl
  have h := kdh_pre t0 hl h
  generalize hcs : List.replicate t0 2 ++ cs2 = cs at *
  have hle := hC.le
  obtain ⟨gs, vs, frs, e1, e2, e3⟩ := KDH.run cs ops 0 fr (by simp) hle (by simp) h
  rw [Nat.zero_add] at e3
  have hR : RunH C ops σ ρ cs gs vs frs := ⟨fun k o hk ho => e2 k o (Nat.zero_le _) (by omega) ho⟩
  have hsub := Sl.sub ⟨hs, hn⟩ hS.own.has
  have hno : ∀ k, t0 ≤ k → L.getD k false = true → False := fun k hk hl => by
    rw [hL] at hl
    simp only [decide_eq_true_eq] at hl
    omega
  refine any_midT (KT := fun fr σ => KA C ops Q t1 fr σ) hC hR (by rw [e1]; exact hS.fr) hS.own.has.nodup hsub.2 hsub.1 (fun L a w F σ h1 h2 h3 h4 => ?_) _ cs2.length L a w t0 false _ σ ?_ ?_ ⟨hLs, fun i o ho hl j hj => ?_, fun i hi => ?_, hS.n, hC.t0le, fun i hi => ?_, Nat.le_refl _, fun i _ _ => ?_, (fun h => by cases h), fun s k o hh hl => (hno k (hC.ge hh) hl).elim, fun s k o g v hk _ hl => (hno k hk hl).elim, fun s _ => rfl, fun s _ => rfl, ?_, hS.defs, hS.hid, ?_, ?_⟩
  · rw [hlen] at h2 ⊢
    exact h3 L a w h1 h2 h4
  · have e : List.range cs.length = List.range t0 ++ (List.range cs2.length).map (fun x => t0 + x) := by rw [hlen, ← ht1, List.range_add]
    simp only [hL]
    rw [e, List.filter_append, List.length_append]
    have e1 : (List.range t0).filter (fun k => !decide (k < t0)) = [] := by
      rw [List.filter_eq_nil_iff]; intro k hk; have := List.mem_range.1 hk; simp [this]
    have e2 : ((List.range cs2.length).map (fun x => t0 + x)).filter (fun k => !decide (k < t0)) = (List.range cs2.length).map (fun x => t0 + x) := by
      rw [List.filter_eq_self]; intro k hk
      obtain ⟨x, _, rfl⟩ := List.mem_map.1 hk
      simp
    rw [e1, e2]
    simp
  · omega
  · rw [hL] at hl ⊢
    have := hC.low i o ho j hj
    simp only [decide_eq_true_eq] at hl ⊢
    omega
  · have := hC.t0le
    rw [hL]; simp; omega
  · rw [hL]; simpa using hi
  · rw [hL]; simp
  · exact ⟨hS.own.os, hS.own.tape, hS.own.output, hS.own.size, hS.own.old, ⟨hS.own.has.has, hS.own.has.nodup⟩, hS.own.new⟩
  · exact fun p hp => hp
  · rw [hd1, hd2]; exact e3
end
end Go.K
