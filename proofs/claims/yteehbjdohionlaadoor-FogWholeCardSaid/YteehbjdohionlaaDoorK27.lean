/- The program logic, twenty-seventh part: a statement whose order is open, with two effects of which neither stands behind the other; what hangs on one of them alone may come ahead of the other. -/
import Derived.Test.YteehbjdohionlaaDoorK26
namespace Go.K
open Go Go.RowKit

/-- From m on, each operation stands behind all that are ahead of it. -/
def chainT (m : Nat) : Nat → List Oper → List Oper
  | _, [] => []
  | i, o :: r => (if i < m then o else { o with after := ((List.range i).map fun j => { on := j, ground := .data }).toArray }) :: chainT m (i + 1) r
theorem chainT_len (m : Nat) : ∀ (i : Nat) (l : List Oper), (chainT m i l).length = l.length
  | _, [] => rfl
  | i, o :: r => by rw [chainT, List.length_cons, List.length_cons, chainT_len m (i + 1) r]
theorem chainT_get {m : Nat} : ∀ (i : Nat) (l : List Oper) (k : Nat), i + k < m → (chainT m i l)[k]? = l[k]?
  | _, [], _, _ => rfl
  | i, o :: r, 0, h => by rw [chainT, if_pos (by omega)]; rfl
  | i, o :: r, k + 1, h => by
    rw [chainT, List.getElem?_cons_succ, List.getElem?_cons_succ]
    exact chainT_get (i + 1) r k (by omega)
def csH (p : Nat) : List Nat := List.replicate p 0 ++ [2]
theorem csH_len (p : Nat) : (csH p).length = p + 1 := by simp [csH]
theorem csH_lo {p k : Nat} (h : k < p) : hdB (csH p) k = true ∧ clsAt (csH p) k = 0 := by
  have e : clsAt (csH p) k = 0 := cls_lo p [2] h
  refine ⟨?_, e⟩
  unfold hdB
  rw [e]; rfl
theorem csH_p (p : Nat) : hdB (csH p) p = false := by
  have e : clsAt (csH p) p = clsAt [2] (p - p) := cls_hi p [2] (Nat.le_refl p)
  unfold hdB
  rw [e, Nat.sub_self]; rfl
theorem alikeX {l : List Oper} {x : Nat} {v : Value} {L : Array Bool} (hgn : ∀ (i : Nat) (o : Oper), l[i]? = some o → o.guard = none) (hx : L.getD x false = true) : Alike L l (noOp l x v) :=
  ⟨noOp_len _ _ _, fun i o ho hl => by
    have hne : i ≠ x := fun e => by subst e; rw [hx] at hl; cases hl
    exact ⟨hgn i o ho, o, by rw [noOp_ne hne]; exact ho, ⟨o.after, rfl⟩, fun _ h => h, fun _ h => .inl h⟩⟩

section
variable {C : Cx} {Q : KQ}
theorem assign_inj {L : Look} {σ : Heap} {o : Oper} {v v' : Value} {a : Act} {w : World} (hq : Qt C L σ true o v') (ho : o.op = .assign (.const v)) (hL : LOk L a) (hO : Own C.E σ w) : v' = v := by
  have e : (execOp a.eval o).run C.P w = .ok (.value v) w := by simp [execOp, ho, Act.eval]
  rcases hq a w hL hO rfl with h | ⟨f, args, h, _⟩
  · rw [e] at h; injection h with h; injection h with h; exact h.symm
  · rw [e] at h; injection h with h; cases h

theorem invX {l : List Oper} {p x dx : Nat} {ox : Oper} {cs : List Nat} {σ σ' : Heap} {gs gsX : Nat → Bool} {vs vsX : Nat → Value} {frm frmX : Fr} {a0 a : Act} {w w' : World} {L : Array Bool} {v : Value} {KA KX : Fr → Heap → Prop}
    (hx : l[x]? = some ox) (hpx : p ≤ x) (hxc : x < cs.length) (hdx : ox.dst = some dx) (hdN : Nat.blt dx C.N = true) (hcp : ∀ k, k < p → hdB cs k = true) (hcx : hdB cs x = true)
    (hgk : ∀ k, k < p → gsX k = gs k ∧ vsX k = vs k) (hgx : gsX x = true ∧ vsX x = v)
    (hI : InvM C (chainT (p + 1) 0 l) σ [] (csH p) gs vs frm a0 KA L a w 0 false frm σ) (hd : ∀ j ∈ depsOf ox, L.getD j false = true) (hs : Stp σ σ' w w') (hk : ∀ y ∈ σ, y ∈ σ')
    (hgo : KDM C (noOp l x v) σ [] KX false cs (noOp l x v) frmX σ') :
    InvM C (noOp l x v) σ [] cs gsX vsX frmX a0 KX (L.setIfInBounds x true) (a.put (some dx) v) w' 0 false frmX σ' := by
  have hlt : x < l.length := (List.getElem?_eq_some_iff.1 hx).1
  have hil : x < L.size := by rw [hI.size, chainT_len]; exact hlt
  have hmids : ∀ k, L.getD k false = true → k < p := fun k hk => by
    rcases Nat.lt_or_ge k p with h1 | h1
    · exact h1
    · rcases Nat.lt_or_ge k (p + 1) with h2 | h2
      · obtain rfl : k = p := by omega
        have := (hI.mids k (by rw [csH_len]; omega) (csH_p k)).1 hk
        omega
      · rw [hI.pre k (by rw [csH_len]; exact h2)] at hk; cases hk
  have hokd : okDst C.N (some dx) = true := hdN
  have hset : ∀ k, (L.setIfInBounds x true).getD k false = true → k = x ∨ (k < p ∧ L.getD k false = true) := fun k hk => by
    rw [getD_set hil] at hk
    by_cases e : k = x
    · exact .inl e
    · rw [if_neg e] at hk; exact .inr ⟨hmids k hk, hk⟩
  have hno : ∀ k, k < p → ∀ o, (noOp l x v)[k]? = some o → (chainT (p + 1) 0 l)[k]? = some o := fun k hk o ho => by
    rw [noOp_ne (by omega)] at ho; rw [chainT_get 0 l k (by omega)]; exact ho
  refine ⟨by rw [noOp_len]; simpa [chainT_len] using hI.size, fun k o hk hl j hj => ?_, fun k hk => ?_, by rw [put_size]; exact hI.n, Nat.zero_le _, fun k hk hm => ?_, (fun h => by cases h), fun s k o hkh hl hk hks hmax => ?_, fun s k o g v' hkh hl hk hks hF => ?_, fun s _ => rfl, fun s hn => ?_, hI.own.step hs, (hI.defs.step hs).put, hI.hid.step hs, fun y hy => hk y hy, hgo⟩
  · rcases hset k hl with rfl | ⟨h1, h2⟩
    · rw [noOp_at hx] at hk
      obtain rfl := Option.some.inj hk
      have := hd j hj
      rw [getD_set hil]; split
      · rfl
      · exact this
    · have := hI.closed k o (hno k h1 o hk) h2 j hj
      rw [getD_set hil]; split
      · rfl
      · exact this
  · rw [getD_set hil, if_neg (by omega)]
    cases e : L.getD k false with
    | false => rfl
    | true => have := hmids k e; omega
  · cases e : (L.setIfInBounds x true).getD k false with
    | false => exact ⟨fun h => (by cases h), fun h => by omega⟩
    | true =>
      rcases hset k e with rfl | ⟨h1, _⟩
      · rw [hcx] at hm; cases hm
      · rw [hcp k h1] at hm; cases hm
  · rw [okDst_put hI.n hokd]
    by_cases e : k = x
    · subst e
      rw [noOp_at hx] at hk
      obtain rfl := Option.some.inj hk
      have hks' : ox.dst = some s := hks
      rw [hdx] at hks'
      rw [if_pos hks', hgx.1, hgx.2]; rfl
    · rcases hset k hl with h1 | ⟨h1, h2⟩
      · exact absurd h1 e
      · have hne : ¬ (some dx = some s) := fun e2 => by
          have := (hmax x _ (by rw [getD_set hil, if_pos rfl]) (noOp_at hx) (by show ox.dst = some s; rw [hdx]; exact e2)).2
          omega
        rw [if_neg hne, (hgk k h1).1, (hgk k h1).2]
        refine hI.wrote s k o (csH_lo h1).1 h2 (hno k h1 o hk) hks (fun k' o' hl' hk' hs' => ?_)
        have h3 := hmids k' hl'
        refine ⟨(csH_lo h3).1, (hmax k' o' (by rw [getD_set hil, if_neg (by omega)]; exact hl') (by rw [chainT_get 0 l k' (by omega)] at hk'; rw [noOp_ne (by omega)]; exact hk') hs').2⟩
  · rcases hset k hl with rfl | ⟨h1, _⟩
    · rw [hcx] at hkh; cases hkh
    · rw [hcp k h1] at hkh; cases hkh
  · have hne : ¬ (some dx = some s) := fun e2 => hn x _ (by rw [getD_set hil, if_pos rfl]) (noOp_at hx) (by show ox.dst = some s; rw [hdx]; exact e2)
    rw [okDst_put hI.n hokd, if_neg hne]
    refine hI.kept s fun k o hl hk => ?_
    have h3 := hmids k hl
    exact hn k o (by rw [getD_set hil, if_neg (by omega)]; exact hl) (by rw [chainT_get 0 l k (by omega)] at hk; rw [noOp_ne (by omega)]; exact hk)

/-- One of the two effects: what follows when it is carried out ahead of the other one. -/
structure EffX (C : Cx) (Q : KQ) (l : List Oper) (σ : Heap) (p x : Nat) (cs : List Nat) (gs : Nat → Bool) (vs : Nat → Value) (fr0 : Fr) (Lx : Look) (ox : Oper) (dx : Nat) (R : Value → Heap → Prop) : Prop where
  at_ : l[x]? = some ox
  px : p ≤ x
  xc : x < cs.length
  dst : ox.dst = some dx
  dN : Nat.blt dx C.N = true
  cp : ∀ k, k < p → hdB cs k = true
  cx : hdB cs x = true
  cc : clsAt cs x = 0
  chk : ∀ v, ChkM (noOp l x v) cs
  chT : ∀ v, ChT (noOp l x v) cs
  eff : EO C Lx σ ox R
  go : ∀ v σ', R v σ' → (∀ y ∈ σ, y ∈ σ') ∧ ∃ (gsX : Nat → Bool) (vsX : Nat → Value) (frsX : Nat → Fr), (∀ k, k < p → gsX k = gs k ∧ vsX k = vs k) ∧ RunH C (noOp l x v) σ [] cs gsX vsX frsX ∧ frsX 0 = fr0 ∧
    KDM C (noOp l x v) σ [] (fun fr σ => KO C (noOp l x v) Q ((noOp l x v).drop cs.length) fr σ) false cs (noOp l x v) (frsX cs.length) σ'

theorem EffX.step {l : List Oper} {p x dx : Nat} {ox : Oper} {cs : List Nat} {σ : Heap} {gs : Nat → Bool} {vs : Nat → Value} {frm fr0 : Fr} {Lx : Look} {R : Value → Heap → Prop} {a0 a : Act} {w : World} {L : Array Bool} {KA : Fr → Heap → Prop} {f : Nat}
    (hE : EffX C Q l σ p x cs gs vs fr0 Lx ox dx R) (hgn : ∀ (i : Nat) (o : Oper), l[i]? = some o → o.guard = none) (h0 : LOk (look fr0) a0) (hn0 : (keys σ).Nodup)
    (hI : InvM C (chainT (p + 1) 0 l) σ [] (csH p) gs vs frm a0 KA L a w 0 false frm σ) (hun : L.getD x false = false) (hd : ∀ j ∈ depsOf ox, L.getD j false = true) (hL : LOk Lx a)
    (hf : f + 1 = ((List.range l.length).filter fun i => !L.getD i false).length) :
    wpOpIn (fnc C.r) 0 C.P l.toArray (lift C Q) x (wpAnyIn (fnc C.r) 0 C.P .any l.toArray (lift C Q) f (L.setIfInBounds x true)) a w := by
  have hlt : x < l.length := (List.getElem?_eq_some_iff.1 hE.at_).1
  have hLs : L.size = l.length := by rw [hI.size, chainT_len]
  have hil : x < L.size := by omega
  have hgx := hgn _ _ hE.at_
  unfold wpOpIn
  simp only [List.getElem?_toArray, hE.at_]
  rw [if_pos (wanted_none hgx)]
  refine (hE.eff a w hL hI.own).wpIn ?_
  rintro v w' ⟨σ', hr, hs⟩
  obtain ⟨hk, gsX, vsX, frsX, g1, hRX, g3, g4⟩ := hE.go v σ' hr
  obtain ⟨y1, y2, y3, y4⟩ := (hRX.at_ x _ hE.xc (noOp_at hE.at_)).yes hE.cx
  have hgx' : ({ ox with op := .assign (.const v) } : Oper).guard = none := hgx
  have z1 : gsX x = true := by
    rw [guardOf_none hgx', guardIn_none hgx'] at y1
    rcases y1 with y1 | y1
    · exact (Option.some.inj y1).symm
    · cases y1
  have z2 : vsX x = v := by
    rw [z1, hE.cc] at y3
    refine assign_inj (a := a) (w := w) y3 rfl ?_ hI.own
    intro s g v hs
    obtain ⟨hn, _⟩ := LR_some hs
    rw [namesOf_none hgx'] at hn
    cases hn
  have hIX := invX hE.at_ hE.px hE.xc hE.dst hE.dN hE.cp hE.cx g1 ⟨z1, z2⟩ hI hd hs hk g4
  have hcl : cs.length ≤ l.length := by have := (hE.chk v).le; rwa [noOp_len] at this
  have hpre : ∀ k, cs.length ≤ k → (L.setIfInBounds x true).getD k false = false := hIX.pre
  have hcnt : f = ((List.range l.length).filter fun k => !(L.setIfInBounds x true).getD k false).length := cnt_set hil hlt hun hf
  have hcnt2 : ((List.range l.length).filter fun k => !(L.setIfInBounds x true).getD k false).length = ((List.range cs.length).filter fun k => !(L.setIfInBounds x true).getD k false).length + (l.length - cs.length) := by
    obtain ⟨d, hd2⟩ : ∃ d, l.length = cs.length + d := ⟨l.length - cs.length, by omega⟩
    rw [hd2, show cs.length + d - cs.length = d by omega, List.range_add, List.filter_append, List.length_append, List.filter_map, List.length_map]
    congr 1
    rw [List.filter_eq_self.2 (fun k hk => ?_), List.length_range]
    show (!(L.setIfInBounds x true).getD (cs.length + k) false) = true
    rw [hpre _ (by omega)]; rfl
  have hanyX := any_mid (hE.chk v) (hE.chT v) hRX (by rw [g3]; exact h0) hn0 (by simp [keys]) (fun p hp => by cases hp) f _ (L.setIfInBounds x true) _ w' 0 false (frsX cs.length) σ' rfl (by rw [noOp_len]; omega) hIX
  rw [hE.dst]
  exact any_congr f _ _ w' (alikeX (v := v) hgn (by rw [getD_set hil, if_pos rfl])) (by simpa using hLs) hanyX

theorem least_un {L : Array Bool} : ∀ (n p : Nat), p < n → L.getD p false = false → ∃ k, k ≤ p ∧ L.getD k false = false ∧ ∀ j, j < k → L.getD j false = true
  | 0, p, h, _ => by omega
  | n + 1, p, h, hp => by
    by_cases e : ∃ j, j < p ∧ L.getD j false = false
    · obtain ⟨j, h1, h2⟩ := e
      obtain ⟨k, h3, h4, h5⟩ := least_un n j (by omega) h2
      exact ⟨k, by omega, h4, h5⟩
    · refine ⟨p, Nat.le_refl _, hp, fun j hj => ?_⟩
      cases e2 : L.getD j false with
      | true => rfl
      | false => exact absurd ⟨j, hj, e2⟩ e

theorem any_Q {l : List Oper} {p q dp dq : Nat} {op oq : Oper} {csP csQ : List Nat} {σ : Heap} {gs : Nat → Bool} {vs : Nat → Value} {frs : Nat → Fr} {Rp Rq : Value → Heap → Prop} {a0 : Act}
    (hC : ChkM (chainT (p + 1) 0 l) (csH p)) (hR : RunH C (chainT (p + 1) 0 l) σ [] (csH p) gs vs frs) (h0 : LOk (look (frs 0)) a0) (hn0 : (keys σ).Nodup) (hgn : ∀ (i : Nat) (o : Oper), l[i]? = some o → o.guard = none)
    (hlow : ∀ (i : Nat) (o : Oper), l[i]? = some o → ∀ j ∈ depsOf o, j < i) (hrest : ∀ (i : Nat) (o : Oper), l[i]? = some o → p ≤ i → i ≠ p → i ≠ q → ∃ j ∈ depsOf o, p ≤ j)
    (hEp : EffX C Q l σ p p csP gs vs (frs 0) (LR (namesOf l op) (look (frs (p + 1)))) op dp Rp) (hEq : EffX C Q l σ p q csQ gs vs (frs 0) (fun _ => none) oq dq Rq) :
    ∀ (f : Nat) (L : Array Bool) (a : Act) (w : World), f = ((List.range l.length).filter fun i => !L.getD i false).length →
      InvM C (chainT (p + 1) 0 l) σ [] (csH p) gs vs (frs (p + 1)) a0 (fun _ _ => True) L a w 0 false (frs (p + 1)) σ →
      wpAnyIn (fnc C.r) 0 C.P .any l.toArray (lift C Q) f L a w := by
  have hlp : p < l.length := (List.getElem?_eq_some_iff.1 hEp.at_).1
  have hun : ∀ (L : Array Bool) (a : Act) (w : World), InvM C (chainT (p + 1) 0 l) σ [] (csH p) gs vs (frs (p + 1)) a0 (fun _ _ => True) L a w 0 false (frs (p + 1)) σ → ∀ k, L.getD k false = true → k < p := fun L a w hI k hk => by
    rcases Nat.lt_or_ge k p with h1 | h1
    · exact h1
    · rcases Nat.lt_or_ge k (p + 1) with h2 | h2
      · obtain rfl : k = p := by omega
        have := (hI.mids k (by rw [csH_len]; omega) (csH_p k)).1 hk
        omega
      · rw [hI.pre k (by rw [csH_len]; exact h2)] at hk; cases hk
  intro f
  induction f with
  | zero =>
    intro L a w hf hI
    have hpn : L.getD p false = false := by
      cases e : L.getD p false with
      | false => rfl
      | true => have := hun L a w hI p e; omega
    have : p ∈ (List.range l.length).filter fun i => !L.getD i false := List.mem_filter.2 ⟨List.mem_range.2 hlp, by rw [hpn]; rfl⟩
    rw [List.eq_nil_of_length_eq_zero hf.symm] at this; cases this
  | succ f ih =>
    intro L a w hf hI
    have hLs : L.size = l.length := by rw [hI.size, chainT_len]
    have hmids := hun L a w hI
    have hpn : L.getD p false = false := by
      cases e : L.getD p false with
      | false => rfl
      | true => have := hmids p e; omega
    refine ⟨fun he => ?_, fun i hi => ?_⟩
    · exfalso
      obtain ⟨k, h1, h2, h3⟩ := least_un (p + 1) p (by omega) hpn
      have ho : l[k]? = some (l[k]'(by omega)) := List.getElem?_eq_getElem (by omega)
      have := ready_of (getD_ft (by omega) h2) ho (fun j hj => h3 j (hlow k _ ho j hj))
      rw [he] at this; cases this
    · obtain ⟨h1, o, ho, hd⟩ := mem_ready' hi
      have hu := getD_tf h1
      have hil : i < L.size := by rw [hLs]; exact (List.getElem?_eq_some_iff.1 ho).1
      have hg := hgn i o ho
      by_cases hip : i < p
      · have hoA : (chainT (p + 1) 0 l)[i]? = some o := by rw [chainT_get 0 l i (by omega)]; exact ho
        obtain ⟨a1, a3⟩ := csH_lo hip
        have him : i < (csH p).length := by rw [csH_len]; omega
        obtain ⟨g1, g2, g3, g4⟩ := (hR.at_ i o him hoA).yes a1
        have hL := InvM.namesH hC hR h0 hI him a1 hoA hu hd
        have hown : Own C.E (hSel σ [] (clsAt (csH p) i)) w := by
          rw [a3]
          exact hI.own.take hn0 (fun p hp => hp)
        have hgi : gs i = true := by
          rw [guardOf_none hg, guardIn_none hg] at g1
          rcases g1 with g1 | g1
          · exact (Option.some.inj g1).symm
          · cases g1
        have hcnt : f = ((List.range l.length).filter fun k => !(L.setIfInBounds i true).getD k false).length := cnt_set hil (by omega) hu hf
        unfold wpOpIn
        simp only [List.getElem?_toArray, ho]
        rw [if_pos (wanted_none hg)]
        rw [hgi] at g3
        refine (g3.eff hL hown).wpIn ?_
        rintro x w' ⟨rfl, hb⟩
        have := ih _ _ w' hcnt (hI.nextH hC him a1 hoA hu hd g2 hb)
        rw [hgi] at this
        exact this
      · by_cases hep : i = p
        · subst hep
          have e1 : op = o := Option.some.inj (hEp.at_.symm.trans ho)
          subst e1
          have hoA : (chainT (i + 1) 0 l)[i]? = some op := by rw [chainT_get 0 l i (by omega)]; exact ho
          have hL := InvM.namesM hC hR h0 (by rw [csH_len]; exact hI) (by rw [csH_len]; omega) (csH_p i) hoA hu hd
          rw [namesOf_none hg] at hL
          exact hEp.step hgn h0 hn0 hI hu hd (by rw [namesOf_none hg]; exact hL) hf
        · by_cases heq : i = q
          · subst heq
            have e1 : oq = o := Option.some.inj (hEq.at_.symm.trans ho)
            subst e1
            exact hEq.step hgn h0 hn0 hI hu hd (fun s g v h => by cases h) hf
          · exfalso
            obtain ⟨j, hj, hpj⟩ := hrest i o ho (by omega) hep heq
            have := hmids j (hd j hj)
            omega

def chkQ (l : List Oper) (p q : Nat) (csP csQ : List Nat) : Bool :=
  chkM (chainT (p + 1) 0 l) (csH p) && chkM (noOp l p (.bool false)) csP && chkM (noOp l q (.bool false)) csQ && l.all (fun o => o.guard.isNone) && (List.range p).all (fun k => Nat.beq (clsAt csP k) 0 && Nat.beq (clsAt csQ k) 0) &&
  Nat.beq (clsAt csP p) 0 && Nat.beq (clsAt csQ q) 0 && Nat.blt p csP.length && Nat.blt q csQ.length && Nat.ble p q &&
  (List.range l.length).all (fun i => match nth l i with
    | some o => (depsOf o).all (fun j => decide (j < i)) && (decide (i < p) || Nat.beq i p || Nat.beq i q || (depsOf o).any (fun j => decide (p ≤ j)))
    | none => true)
theorem simNo {l : List Oper} {x : Nat} {ox : Oper} (hx : l[x]? = some ox) (hgn : ∀ (i : Nat) (o : Oper), l[i]? = some o → o.guard = none) (v : Value) : SimO (noOp l x (.bool false)) (noOp l x v) := by
  have hgx := hgn _ _ hx
  refine ⟨by rw [noOp_len, noOp_len], fun i o' ho' => ?_⟩
  by_cases e : i = x
  · subst e
    rw [noOp_at hx] at ho'
    obtain rfl := Option.some.inj ho'
    refine ⟨_, noOp_at hx, rfl, rfl, ?_⟩
    rw [namesOf_none (show ({ ox with op := .assign (.const (.bool false)) } : Oper).guard = none from hgx), namesOf_none (show ({ ox with op := .assign (.const v) } : Oper).guard = none from hgx)]
    rfl
  · rw [noOp_ne e] at ho'
    refine ⟨o', by rw [noOp_ne e]; exact ho', rfl, rfl, ?_⟩
    rw [namesOf_none (hgn _ _ ho'), namesOf_none (hgn _ _ ho')]
theorem cls_drop (cs : List Nat) (p k : Nat) (h : p ≤ k) : clsAt (cs.drop p) (k - p) = clsAt cs k := by
  unfold clsAt
  rw [nth_eq, nth_eq, List.getElem?_drop, show p + (k - p) = k by omega]
/-- What is asked of an effect that may come first: the rest, the effect being done. -/
def GoX (C : Cx) (Q : KQ) (l : List Oper) (σ : Heap) (p x : Nat) (cs : List Nat) (fr' : Fr) (v : Value) (σ1 : Heap) : Prop :=
  KDH C (noOp l x v) σ [] (fun fr2 => KDM C (noOp l x v) σ [] (fun fr3 σ3 => KO C (noOp l x v) Q ((noOp l x v).drop cs.length) fr3 σ3) false (cs.drop p) ((noOp l x v).drop p) fr2 σ1) (cs.drop p) ((noOp l x v).drop p) fr'
theorem GoX.eff {l : List Oper} {σ : Heap} {p x dx : Nat} {cs : List Nat} {ox : Oper} {gs : Nat → Bool} {vs : Nat → Value} {frs : Nat → Fr} {Lx : Look} {R : Value → Heap → Prop} (hx : l[x]? = some ox) (hdx : ox.dst = some dx) (hN : Nat.blt dx C.N = true) (hpx : p ≤ x) (hxc : x < cs.length)
    (hgn : ∀ (i : Nat) (o : Oper), l[i]? = some o → o.guard = none) (hcl : ∀ k, k < p → clsAt cs k = 0) (hcx : clsAt cs x = 0) (hM : chkM (noOp l x (.bool false)) cs = true) (hrun : ∀ k o, k < p → l[k]? = some o → StepH C l σ true o (gs k) (vs k) (frs k) (frs (k + 1)))
    (hE : EO C Lx σ ox R) (hgo : ∀ v σ1, R v σ1 → (∀ y ∈ σ, y ∈ σ1) ∧ GoX C Q l σ p x cs (frs p) v σ1) : EffX C Q l σ p x cs gs vs (frs 0) Lx ox dx R := by
  have hd0 : ∀ k, clsAt cs k = 0 → hdB cs k = true := fun k h => by unfold hdB; rw [h]; rfl
  have hSim := simNo hx hgn
  refine ⟨hx, hpx, hxc, hdx, hN, fun k hk => hd0 k (hcl k hk), hd0 x hcx, hcx, fun v => (hSim v).chk (chkM_ok hM), fun v => (hSim v).chT (chkM_okT hM), hE, fun v σ1 hr => ?_⟩
  obtain ⟨h1, h2⟩ := hgo v σ1 hr
  have hle : cs.length ≤ l.length := by have := (chkM_ok hM).le; rwa [noOp_len] at this
  refine ⟨h1, ?_⟩
  unfold GoX at h2
  obtain ⟨gs2, vs2, frs2, e1, e2, e3⟩ := KDH.run (cs.drop p) ((noOp l x v).drop p) p (frs p) (by rw [List.length_drop, noOp_len]; omega) (by rw [List.length_drop, List.length_drop, noOp_len]; omega) (fun j => by rw [List.getElem?_drop]) h2
  rw [List.length_drop, show p + (cs.length - p) = cs.length by omega] at e2 e3
  refine ⟨fun k => if k < p then gs k else gs2 k, fun k => if k < p then vs k else vs2 k, fun k => if k < p then frs k else frs2 k, fun k hk => ⟨if_pos hk, if_pos hk⟩, ⟨fun k o hk ho => ?_⟩, ?_, ?_⟩
  · by_cases hkp : k < p
    · have ho' : l[k]? = some o := by rw [noOp_ne (by omega)] at ho; exact ho
      have hg := hgn k o ho'
      have hst := hrun k o hkp ho'
      rw [if_pos hkp, if_pos hkp, if_pos hkp, hcl k hkp, hd0 k (hcl k hkp)]
      refine ⟨fun _ => ?_, fun e => by cases e⟩
      obtain ⟨b1, b2, b3, b4⟩ := hst.yes rfl
      refine ⟨?_, b2, ?_, ?_⟩
      · rw [guardOf_none hg, guardIn_none hg] at b1 ⊢; exact b1
      · rw [namesOf_none hg] at b3 ⊢; exact b3
      · by_cases hk1 : k + 1 < p
        · rw [if_pos hk1]; exact b4
        · rw [if_neg hk1, show k + 1 = p by omega, e1, ← b4, show k + 1 = p by omega]
    · have := e2 k o (by omega) hk ho
      rw [cls_drop cs p k (by omega)] at this
      have e4 : hdB (cs.drop p) (k - p) = hdB cs k := by unfold hdB; rw [cls_drop cs p k (by omega)]
      rw [e4] at this
      rw [if_neg hkp, if_neg hkp, if_neg hkp, if_neg (by omega)]
      exact this
  · show (if 0 < p then frs 0 else frs2 0) = frs 0
    by_cases hp0 : 0 < p
    · rw [if_pos hp0]
    · obtain rfl : p = 0 := by omega
      rw [if_neg hp0]; exact e1
  · show KDM C _ σ [] _ false cs (noOp l x v) (if cs.length < p then frs cs.length else frs2 cs.length) σ1
    rw [if_neg (by omega)]
    have hM' := (hSim v).chk (chkM_ok hM)
    refine KDM.unskip (cs := cs) hM'.le p 0 (by omega) (fun k _ hk => hd0 k (hcl k (by omega))) ?_
    rw [Nat.zero_add]
    exact e3
/-- A statement whose order is open: quiet operations, then two effects of which either may come first. -/
theorem KW.drawQ {id : Nat} {l : List Oper} {fr : Fr} {σ : Heap} {op oq : Oper} {dp dq : Nat} (p q : Nat) (csP csQ : List Nat) (hp : nth l p = some op) (hq : nth l q = some oq) (hdp : op.dst = some dp) (hdq : oq.dst = some dq) (hNp : Nat.blt dp C.N = true) (hNq : Nat.blt dq C.N = true) (hc : chkQ l p q csP csQ = true)
    (h : KDH C l σ [] (fun fr' =>
      (∃ Rp, EO C (LR (namesOf l op) (look fr')) σ op Rp ∧ ∀ v σ1, Rp v σ1 → (∀ x ∈ σ, x ∈ σ1) ∧ GoX C Q l σ p p csP fr' v σ1) ∧
      (∃ Rq, EO C (fun _ => none) σ oq Rq ∧ ∀ v σ1, Rq v σ1 → (∀ x ∈ σ, x ∈ σ1) ∧ GoX C Q l σ p q csQ fr' v σ1)) (List.replicate p 0) l fr) : KW C Q (.region id l.toArray true) fr σ := by
  rw [nth_eq] at hp hq
  unfold chkQ at hc
  simp only [Bool.and_eq_true, List.all_eq_true, Option.isNone_iff_eq_none, List.mem_range] at hc
  obtain ⟨⟨⟨⟨⟨⟨⟨⟨⟨⟨hA, hP⟩, hQ⟩, hgn0⟩, hcl⟩, hcp⟩, hcq⟩, hpl⟩, hql⟩, hpq⟩, hops⟩ := hc
  have hgn : ∀ (i : Nat) (o : Oper), l[i]? = some o → o.guard = none := fun i o ho => hgn0 o (List.mem_of_getElem? ho)
  have hpl := Nat.le_of_ble_eq_true hpl
  have hql := Nat.le_of_ble_eq_true hql
  have hpq := Nat.le_of_ble_eq_true hpq
  have hlp : p < l.length := (List.getElem?_eq_some_iff.1 hp).1
  have hcl1 : ∀ k, k < p → clsAt csP k = 0 := fun k hk => Nat.eq_of_beq_eq_true (hcl k hk).1
  have hcl2 : ∀ k, k < p → clsAt csQ k = 0 := fun k hk => Nat.eq_of_beq_eq_true (hcl k hk).2
  have hop : ∀ (i : Nat) (o : Oper), l[i]? = some o → (∀ j ∈ depsOf o, j < i) ∧ (p ≤ i → i ≠ p → i ≠ q → ∃ j ∈ depsOf o, p ≤ j) := fun i o ho => by
    have h1 := hops i (List.getElem?_eq_some_iff.1 ho).1
    rw [nth_eq, ho] at h1
    simp only [Bool.and_eq_true, List.all_eq_true, decide_eq_true_eq, Bool.or_eq_true, List.any_eq_true] at h1
    refine ⟨h1.1, fun h2 h3 h4 => ?_⟩
    rcases h1.2 with ((h5 | h5) | h5) | h5
    · omega
    · exact absurd (Nat.eq_of_beq_eq_true h5) h3
    · exact absurd (Nat.eq_of_beq_eq_true h5) h4
    · exact h5
  intro a w hS
  obtain ⟨gs, vs, frs, e1, e2, ⟨Rp, hEp, hgp⟩, ⟨Rq, hEq, hgq⟩⟩ := KDH.run (List.replicate p 0) l 0 fr (by simp) (by simp; omega) (by simp) h
  rw [Nat.zero_add, List.length_replicate] at e2 hEp hgp hgq
  have hz : ∀ k, k < p → clsAt (List.replicate p 0) k = 0 := fun k hk => by
    have := cls_lo p [] hk
    rwa [List.append_nil] at this
  have hrun : ∀ k o, k < p → l[k]? = some o → StepH C l σ true o (gs k) (vs k) (frs k) (frs (k + 1)) := fun k o hk ho => by
    have := e2 k o (Nat.zero_le _) hk ho
    rw [Nat.sub_zero, hz k hk] at this
    have e3 : hdB (List.replicate p 0) k = true := by unfold hdB; rw [hz k hk]; rfl
    rw [e3] at this
    exact this
  have hCA := chkM_ok hA
  have hRA : RunH C (chainT (p + 1) 0 l) σ [] (csH p) gs vs (fun k => frs (min k p)) := ⟨fun k o hk ho => by
    rw [csH_len] at hk
    by_cases hkp : k < p
    · have ho' : l[k]? = some o := by rw [chainT_get 0 l k (by omega)] at ho; exact ho
      have hg := hgn k o ho'
      obtain ⟨c1, c2⟩ := csH_lo hkp
      rw [c1, c2, show min k p = k by omega, show min (k + 1) p = k + 1 by omega]
      obtain ⟨b1, b2, b3, b4⟩ := (hrun k o hkp ho').yes rfl
      refine ⟨fun _ => ⟨?_, b2, ?_, b4⟩, fun e => by cases e⟩
      · rw [guardOf_none hg, guardIn_none hg] at b1 ⊢; exact b1
      · rw [namesOf_none hg] at b3 ⊢; exact b3
    · obtain rfl : k = p := by omega
      rw [csH_p]
      refine ⟨(fun e => by cases e), (fun _ => ?_)⟩
      rw [show min (k + 1) k = k by omega, show min k k = k by omega]⟩
  have hXp := GoX.eff (Q := Q) hp hdp hNp (Nat.le_refl p) hpl hgn hcl1 (Nat.eq_of_beq_eq_true hcp) hP hrun hEp hgp
  have hXq := GoX.eff (Q := Q) hq hdq hNq hpq hql hgn hcl2 (Nat.eq_of_beq_eq_true hcq) hQ hrun hEq hgq
  refine wpIn_region_any C.T.mixed ?_
  have hf : ∀ i, (Array.replicate l.toArray.size false).getD i false = false := fun i => by
    rw [Array.getD_eq_getD_getElem?]
    rcases Nat.lt_or_ge i l.length with h | h
    · simp [h]
    · simp [h]
  have hid : ∀ i, ¬ (Array.replicate l.toArray.size false).getD i false = true := fun i => by rw [hf]; simp
  have hopA : (chainT (p + 1) 0 l)[p]? = some op := by rw [chainT_get 0 l p (by omega)]; exact hp
  have hgoA : KDM C (chainT (p + 1) 0 l) σ [] (fun _ _ => True) false (csH p) (chainT (p + 1) 0 l) (frs p) σ := by
    refine KDM.unskip (cs := csH p) hCA.le p 0 (by rw [csH_len]; omega) (fun k _ hk => (csH_lo (by omega)).1) ?_
    rw [Nat.zero_add]
    have c1 : (csH p).drop p = [2] := by unfold csH; rw [List.drop_left' (by simp)]
    have c2 : ∃ r, (chainT (p + 1) 0 l).drop p = op :: r := by
      rw [List.drop_eq_getElem_cons (by rw [chainT_len]; omega)]
      have := List.getElem?_eq_getElem (l := chainT (p + 1) 0 l) (i := p) (by rw [chainT_len]; omega)
      rw [hopA] at this
      exact ⟨_, by rw [← Option.some.inj this]⟩
    obtain ⟨r, c2⟩ := c2
    rw [c1, c2]
    unfold KDM
    show ∃ g R, _
    have hgp' := hgn _ _ hp
    refine ⟨true, Rp, guardOf_none hgp', by rw [hdp]; exact hNp, fun _ => by rw [namesOf_none hgp'] at hEp ⊢; exact hEp, (fun e => by cases e), fun v σ1 hr => ⟨(hgp v σ1 hr).1, ?_⟩⟩
    unfold KDM
    trivial
  have hAny := any_Q (C := C) (Q := Q) (q := q) (csP := csP) (csQ := csQ) (frs := fun k => frs (min k p)) (a0 := a) hCA hRA (by show LOk (look (frs (min 0 p))) a; rw [Nat.zero_min, e1]; exact hS.fr) hS.own.has.nodup hgn (fun i o ho => (hop i o ho).1) (fun i o ho => (hop i o ho).2)
    (by show EffX C Q l σ p p csP gs vs (frs (min 0 p)) (LR (namesOf l op) (look (frs (min (p + 1) p)))) op dp Rp; rw [Nat.zero_min, show min (p + 1) p = p by omega]; exact hXp) (by show EffX C Q l σ p q csQ gs vs (frs (min 0 p)) (fun _ => none) oq dq Rq; rw [Nat.zero_min]; exact hXq)
  refine hAny _ _ a _ ?_ ?_
  · have e : ((List.range l.length).filter fun i => !(Array.replicate l.toArray.size false).getD i false) = List.range l.length := by
      rw [List.filter_eq_self]; intro i _; rw [hf]; rfl
    rw [e]; simp
  · show InvM C (chainT (p + 1) 0 l) σ [] (csH p) gs vs (frs (min (p + 1) p)) a (fun _ _ => True) _ a _ 0 false (frs (min (p + 1) p)) σ
    rw [show min (p + 1) p = p by omega]
    exact ⟨by simp [chainT_len], fun i o ho hl => absurd hl (hid i), fun i _ => hf i, hS.n, Nat.zero_le _, fun i _ _ => ⟨fun h => absurd h (hid i), fun h => by omega⟩, (fun h => by cases h), fun s k o _ hl => absurd hl (hid k), fun s k o g v _ hl => absurd hl (hid k), fun s _ => rfl, fun s _ => rfl, ⟨hS.own.os, hS.own.tape, hS.own.output, hS.own.size, hS.own.old, ⟨hS.own.has.has, hS.own.has.nodup⟩, hS.own.new⟩, hS.defs, hS.hid, fun p hp => hp, hgoA⟩
end
end Go.K
