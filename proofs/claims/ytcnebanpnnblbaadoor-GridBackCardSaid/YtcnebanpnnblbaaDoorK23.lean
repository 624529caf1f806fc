/- The program logic, twenty-third part: statements whose order is open, with effects, and behind the effects quiet operations in whatever order. -/
import Derived.Test.YtcnebanpnnblbaaDoorK14
import Derived.Test.YtcnebanpnnblbaaDoorK21
namespace Go.K
open Go Go.RowKit

section
variable {C : Cx} {Q : KQ}
def chkN (ops : List Oper) (cs : List Nat) : Bool :=
  let B := masks ops []
  let m := cs.length
  cs.all (fun c => Nat.ble c 3) && Nat.ble m ops.length &&
  (List.range ops.length).all (fun i => match nth ops i with
    | none => true
    | some o => (depsOf o).all (fun j => decide (j < i)) &&
      (if i < m then (List.range m).all (chkPair ops B i o) &&
        (if hdB cs i then (depsOf o).all (hdB cs) else (List.range i).all (fun k => hdB cs k || bit B i k)) &&
        (if Nat.beq (clsAt cs i) 3 then (List.range m).all (fun k => !(Nat.beq (clsAt cs k) 0) || (decide (k < i) && bit B i k)) else true)
      else (List.range m).all (fun k => bit B i k) && (List.range ops.length).all (fun k => Nat.blt k m || chkPair ops B i o k)))

theorem chkN_ok {ops : List Oper} {cs : List Nat} (h : chkN ops cs = true) : ChkM ops cs ∧ ChkB ops cs.length ops.length := by
  unfold chkN at h
  simp only [Bool.and_eq_true, List.all_eq_true, List.mem_range] at h
  obtain ⟨⟨hc, hle⟩, h⟩ := h
  have hle := Nat.le_of_ble_eq_true hle
  have key : ∀ i o, ops[i]? = some o → (∀ j ∈ depsOf o, j < i) ∧ (i < cs.length → (∀ k, k < cs.length → chkPair ops (masks ops []) i o k = true) ∧
      (if hdB cs i then (depsOf o).all (hdB cs) else (List.range i).all (fun k => hdB cs k || bit (masks ops []) i k)) = true ∧
      (clsAt cs i = 3 → ∀ k, k < cs.length → clsAt cs k = 0 → bit (masks ops []) i k = true)) ∧ (cs.length ≤ i → (∀ k, k < cs.length → bit (masks ops []) i k = true) ∧ ∀ k, cs.length ≤ k → k < ops.length → chkPair ops (masks ops []) i o k = true) := by
    intro i o ho
    have h1 := h i (List.getElem?_eq_some_iff.1 ho).1
    rw [nth_eq, ho] at h1
    simp only [Bool.and_eq_true, List.all_eq_true, decide_eq_true_eq] at h1
    refine ⟨h1.1, fun hi => ?_, fun hi => ?_⟩
    · have h2 := h1.2
      rw [if_pos hi] at h2
      simp only [Bool.and_eq_true, List.all_eq_true, List.mem_range] at h2
      refine ⟨fun k hk => h2.1.1 k hk, h2.1.2, fun h3 k hk h0 => ?_⟩
      have h4 := h2.2
      rw [h3, if_pos (show Nat.beq 3 3 = true from rfl)] at h4
      have h5 := List.all_eq_true.1 h4 k (List.mem_range.2 hk)
      rw [h0] at h5
      have h6 : (decide (k < i) && bit (masks ops []) i k) = true := by simpa using h5
      rw [Bool.and_eq_true] at h6; exact h6.2
    · have h2 := h1.2
      rw [if_neg (by omega)] at h2
      simp only [Bool.and_eq_true, List.all_eq_true, List.mem_range] at h2
      refine ⟨h2.1, fun k hk hk2 => ?_⟩
      have h3 := h2.2 k hk2
      have e : Nat.blt k cs.length = false := by
        cases hb : Nat.blt k cs.length with
        | false => rfl
        | true =>
          have h7 := Nat.le_of_ble_eq_true hb
          omega
      rw [e] at h3
      simpa using h3
  refine ⟨⟨hle, fun k hk => ?_, fun i o ho => (key i o ho).1, fun i o k ok s hi hk ho hok hs hne hn => chkPair_ok (((key i o ho).2.1 hi).1 k hk) hok hs hne hn, fun i o k hi ho hk => bit_ok (((key i o ho).2.2 hi).1 k hk), fun i o hi ho hh j hj => ?_, fun i k hi hh hk hlt => ?_, fun i k hi h3 hk h0 => ?_⟩,
    ⟨fun i o ho => (key i o ho).1, fun i o k ok s hi _ hk hk2 ho hok hs hne hn => chkPair_ok (((key i o ho).2.2 hi).2 k hk hk2) hok hs hne hn, fun i o k hi ho _ _ => ?_⟩⟩
  · have : cs[k]? = some cs[k] := List.getElem?_eq_getElem hk
    unfold clsAt
    rw [nth_eq, this]
    exact Nat.le_of_ble_eq_true (hc _ (List.getElem_mem hk))
  · have h2 := ((key i o ho).2.1 hi).2.1
    rw [if_pos hh] at h2
    exact List.all_eq_true.1 h2 j hj
  · have ho : ops[i]? = some ops[i] := List.getElem?_eq_getElem (by omega)
    have h2 := ((key i _ ho).2.1 hi).2.1
    rw [if_neg (by rw [hh]; simp)] at h2
    have h3 := List.all_eq_true.1 h2 k (List.mem_range.2 hlt)
    rw [hk] at h3
    exact bit_ok (by simpa using h3)
  · have ho : ops[i]? = some ops[i] := List.getElem?_eq_getElem (by omega)
    exact bit_ok (((key i _ ho).2.1 hi).2.2 h3 k hk h0)
  · have := (List.getElem?_eq_some_iff.1 ho).1
    omega

/-- A statement whose order is open, with effects in it ('cs' as for KW.drawM), and behind all effects n quiet operations in whatever order. -/
theorem KW.drawN {id : Nat} {l : List Oper} {fr : Fr} {σ ρ : Heap} (cs js : List Nat) (n : Nat) (hc : chkN l cs = true) (hs : selA js σ = some ρ) (hn : nodupB js = true) (hl : Nat.beq l.length (cs.length + n) = true) {tl : List Oper} (ht : dropL cs l = some tl)
    (h : KDH C l σ ρ (fun fr => KDM C l σ ρ (fun fr σ => KD C l Q σ n tl fr) false cs l fr σ) cs l fr) : KW C Q (.region id l.toArray true) fr σ := by
  intro a w hS
  obtain ⟨hC, hC2⟩ := chkN_ok hc
  have hlen := Nat.eq_of_beq_eq_true hl
  have hle := hC.le
  rw [← dropL_ok ht] at h
  obtain ⟨gs, vs, frs, e1, e2, e3⟩ := KDH.run cs l 0 fr (by simp) hle (by simp) h
  rw [Nat.zero_add] at e3
  have hR : RunH C l σ ρ cs gs vs frs := ⟨fun k o hk ho => e2 k o (Nat.zero_le _) (by omega) ho⟩
  refine wpIn_region_any C.T.mixed ?_
  have hf : ∀ i, (Array.replicate l.toArray.size false).getD i false = false := fun i => by
    rw [Array.getD_eq_getD_getElem?]
    rcases Nat.lt_or_ge i l.length with h | h
    · simp [h]
    · simp [h]
  have hsub := Sl.sub ⟨hs, hn⟩ hS.own.has
  have hid : ∀ i, ¬ (Array.replicate l.toArray.size false).getD i false = true := fun i => by rw [hf]; simp
  refine any_midG hC hR (by rw [e1]; exact hS.fr) hS.own.has.nodup hsub.2 hsub.1 ?_ _ _ _ a _ 0 false _ σ rfl ?_ ⟨by simp, fun i o ho hl => absurd hl (hid i), fun i _ => hf i, hS.n, Nat.zero_le _, fun i _ _ => ?_, (fun h => by cases h), fun s k o _ hl => absurd hl (hid k), fun s k o g v _ hl => absurd hl (hid k), fun s _ => rfl, fun s _ => rfl, ?_, hS.defs, hS.hid, ?_, e3⟩
  · -- behind all effects
    intro L a w F σ' hLs hL hk hS2
    have hf1 : l.length - cs.length = n := by omega
    rw [hf1]
    obtain ⟨gs2, vs2, frs2, f1, f2, f3, f4⟩ := KD.run n (l.drop cs.length) cs.length _ (fun j => by simp) hk
    have hR2 : RunB C l σ' cs.length l.length gs2 vs2 frs2 := ⟨fun k o hk1 hk2 ho => f3 k o hk1 (by omega) ho⟩
    refine any_headB hC2 (by omega) (Nat.le_refl _) hR2 (by rw [f1]; exact hS2.fr) ?_ _ n _ _ _ ?_ (by omega) ⟨hLs, fun k ok hk hl j hj => ?_, fun k hk => ?_, fun k hk => ?_, hS2.n, fun s k ok hk hl hok => ?_, fun s _ => rfl, hS2.own, hS2.defs, hS2.hid⟩
    · intro L a w hLs hL hS
      rw [Nat.sub_self]
      refine ⟨List.eq_nil_iff_forall_not_mem.2 fun i hi => ?_, ?_⟩
      · obtain ⟨h1, o, ho, _⟩ := mem_ready' hi
        have := hL i
        rw [getD_tf h1] at this
        have hlt := (List.getElem?_eq_some_iff.1 ho).1
        simp [hlt] at this
      · have e : (l.drop cs.length).drop n = [] := by rw [List.drop_drop]; exact List.drop_eq_nil_of_le (by omega)
        rw [e, show cs.length + n = l.length by omega] at f4
        have := f4 a w hS
        simpa [wpListIn] using this
    · simp only [hL]
      have e : List.range l.length = List.range cs.length ++ (List.range n).map (fun x => cs.length + x) := by rw [hlen, List.range_add]
      rw [e, List.filter_append, List.length_append]
      have e1 : (List.range cs.length).filter (fun k => !decide (k < cs.length)) = [] := by
        rw [List.filter_eq_nil_iff]; intro k hk; have := List.mem_range.1 hk; simp [this]
      have e2 : ((List.range n).map (fun x => cs.length + x)).filter (fun k => !decide (k < cs.length)) = (List.range n).map (fun x => cs.length + x) := by
        rw [List.filter_eq_self]; intro k hk
        obtain ⟨x, _, rfl⟩ := List.mem_map.1 hk
        simp
      rw [e1, e2]
      simp
    · rw [hL] at hl ⊢
      have := hC.low k ok hk j hj
      simp only [decide_eq_true_eq] at hl ⊢
      omega
    · rw [hL]; simpa using hk
    · rw [hL]; simp; omega
    · rw [hL] at hl
      simp only [decide_eq_true_eq] at hl
      omega
  · have e : ((List.range cs.length).filter fun i => !(Array.replicate l.toArray.size false).getD i false) = List.range cs.length := by
      rw [List.filter_eq_self]; intro i _; rw [hf]; rfl
    rw [e]
    simp
    omega
  · rw [hf]; simp
  · exact ⟨hS.own.os, hS.own.tape, hS.own.output, hS.own.size, hS.own.old, ⟨hS.own.has.has, hS.own.has.nodup⟩, hS.own.new⟩
  · exact fun p hp => hp
end
end Go.K
