/- Errors told by nodes, handed in; the last one of them. -/
import Derived.Test.YtpnbcegefhdmdaaDoorEO
import Derived.Test.YtpnbcegefhdmdaaDoorEI
import Derived.Test.YtpnbcegefhdmdaaDoorEL
namespace Go.Proofs.YtpnbcegefhdmdaaDoor
open Go Go.K Go.Extern

/-- A call that reads what is tracked, and leaves it. -/
theorem quietB {P : Program} {f : FuncId} {args : List Value} {β : Nat → Option Obj} {σ : Heap} {v : Value} (hok : FnOk P f)
    (h : ∀ β', (∀ b o, β b = some o → β' b = some o) → (∀ p ∈ σ, β' p.1 = some p.2) → Tr P f args β' [] (fun u s => u = v ∧ s = [])) : Tr P f args β σ (fun u s => u = v ∧ s = σ) :=
  ⟨hok, fun w hR hH => by
    have hb0 : ∀ b o, β b = some o → b ∉ keys σ := fun b o hb => (hR b o hb).2
    have hT := h (Go.K.frz β σ) (fun b o hb => by rw [frz_not _ (hb0 b o hb)]; exact hb) (fun p hp => frz_mem _ hH.nodup hp)
    refine (hT.2 w (fun b o hb => ?_) (Has.nil w)).mono ?_
    · rcases frz_of _ hb with h1 | ⟨_, h1⟩
      · exact ⟨hH.has _ h1, by simp⟩
      · exact ⟨(hR b o h1).1, by simp⟩
    · rintro e w' ⟨u, s, h1, ⟨h2, h3⟩, h4⟩
      subst h2 h3
      exact ⟨u, σ, h1, ⟨rfl, rfl⟩, h4.frame (σ := []) hH⟩⟩
theorem nodes_of {P : Program} {β : Nat → Option Obj} {t s c u v : TypeId} (ht : P.underlying t = some (.int .i64)) (hs : P.underlying s = some .string) (hc : P.underlying c = some (.int .i64)) (hu : P.underlying u = some (.int .i64)) (hv : P.underlying v = some (.int .i64)) : ∀ {m : Nat} {xs : List Value}, xs.length = m * 5 → (∀ i, i < m → RdL P β [t, s, c, u, v] ((xs.drop (i * 5)).take 5)) →
    ∃ ls : List NodeV, xs = fl5 ls ∧ ls.length = m
  | 0, xs, hl, _ => ⟨[], by simpa [fl5] using hl, rfl⟩
  | m + 1, xs, hl, h => by
    match xs, hl with
    | [], hl => simp at hl
    | [_], hl => simp at hl; omega
    | [_, _], hl => simp at hl; omega
    | [_, _, _], hl => simp at hl; omega
    | [_, _, _, _], hl => simp at hl; omega
    | x :: y :: z :: v' :: w' :: r', hl =>
      obtain ⟨c1, r1, g1, k1, k2⟩ := (h 0 (by omega)).cons
      obtain ⟨c2, r2, g2, k3, k4⟩ := k2.cons
      obtain ⟨c3, r3, g3, k5, k6⟩ := k4.cons
      obtain ⟨c4, r4, g4, k7, k8⟩ := k6.cons
      obtain ⟨c5, r5, g5, k9, k10⟩ := k8.cons
      simp only [Nat.zero_mul, List.drop_zero, List.take_succ_cons, List.take_zero, List.cons.injEq] at g1
      obtain ⟨rfl, rfl⟩ := g1
      simp only [List.cons.injEq] at g2
      obtain ⟨rfl, rfl⟩ := g2
      simp only [List.cons.injEq] at g3
      obtain ⟨rfl, rfl⟩ := g3
      simp only [List.cons.injEq] at g4
      obtain ⟨rfl, rfl⟩ := g4
      simp only [List.cons.injEq] at g5
      obtain ⟨rfl, _⟩ := g5
      obtain ⟨a1, rfl, _⟩ := rd_i64 ht k1
      obtain ⟨a2, rfl, _⟩ := rd_string hs k3
      obtain ⟨a3, rfl, _⟩ := rd_i64 hc k5
      obtain ⟨a4, rfl, _⟩ := rd_i64 hu k7
      obtain ⟨a5, rfl, _⟩ := rd_i64 hv k9
      obtain ⟨ls, rfl, hl2⟩ := nodes_of ht hs hc hu hv (m := m) (xs := r') (by simp at hl; omega) (fun i hi => by
        have := h (i + 1) (by omega)
        rwa [show (i + 1) * 5 = i * 5 + 5 by omega] at this)
      exact ⟨⟨a1, a2, a3, a4, a5⟩ :: ls, rfl, by simp [hl2]⟩
theorem rd_nodes {P : Program} {β : Nat → Option Obj} {q : Option Addr} {n d : Nat} {xs : List Value} {by' : Nat} {t s c u v : TypeId} (ht : P.underlying t = some (.int .i64)) (hs : P.underlying s = some .string) (hc : P.underlying c = some (.int .i64)) (hu : P.underlying u = some (.int .i64)) (hv : P.underlying v = some (.int .i64))
    (hsl : SlR β [t, s, c, u, v].length n by' xs q d) (hr : ∀ i, i < n → RdL P β [t, s, c, u, v] ((xs.drop (i * [t, s, c, u, v].length)).take [t, s, c, u, v].length)) : ∃ ls, NodesR β ls q n := by
  have hs' : SlR β 5 n by' xs q d := hsl
  obtain ⟨g1, g2, g3, g4, g5, g6⟩ := hsl
  obtain ⟨ls, rfl, e2⟩ := nodes_of ht hs hc hu hv (m := n) (xs := xs) g5 hr
  exact ⟨ls, e2, SL.ofR (by omega) hs'⟩
theorem small_ok {ls : List NodeV} (h : smallB ls = true) : ls.length ≤ 60 ∧ (∀ x ∈ ls, x.op.size ≤ 40) ∧ runR ls ≠ none ∧ 0 < ls.length := by
  unfold smallB at h
  simp only [Bool.and_eq_true, decide_eq_true_eq] at h
  obtain ⟨⟨h1, h2⟩, h3⟩ := h
  refine ⟨h1, fun x hx => by simpa using List.all_eq_true.1 h2 x hx, fun hn => ?_, ?_⟩
  · unfold rightI at h3; rw [hn] at h3; simp at h3
  · cases ls with
    | nil => simp [rightI, runR] at h3
    | cons x r => simp
theorem foldR_bd : ∀ (xs : List NodeV) (l0 l : List Nat), (∀ k ∈ l0, k ≤ 200) → xs.foldl stepR (some l0) = some l → ∀ k ∈ l, k ≤ 200
  | [], l0, l, h0, h => by simp only [List.foldl_nil, Option.some.injEq] at h; subst h; exact h0
  | x :: xs, l0, l, h0, h => by
    rw [List.foldl_cons] at h
    cases hs : stepR (some l0) x with
    | none => rw [hs, foldR_none] at h; cases h
    | some l1 =>
      rw [hs] at h
      refine foldR_bd xs l1 l ?_ h
      obtain ⟨K, op, C, A, B⟩ := x
      intro k hk
      by_cases hk1 : K = 1
      · subst hk1
        by_cases hc : 0 ≤ A ∧ A < l0.length ∧ 1 + l0.getD A.toNat 0 ≤ 200
        · rw [stepR_k1 hc] at hs
          cases hs
          rcases List.mem_append.1 hk with h | h
          · exact h0 k h
          · have : k = 1 + l0.getD A.toNat 0 := by simpa using h
            omega
        · rw [stepR_k1_bad hc] at hs; cases hs
      · by_cases hk2 : K = 2
        · subst hk2
          by_cases hc : 0 ≤ A ∧ A < l0.length ∧ 0 ≤ B ∧ B < l0.length ∧ 1 + l0.getD A.toNat 0 + l0.getD B.toNat 0 ≤ 200
          · rw [stepR_k2 hc] at hs
            cases hs
            rcases List.mem_append.1 hk with h | h
            · exact h0 k h
            · have : k = 1 + l0.getD A.toNat 0 + l0.getD B.toNat 0 := by simpa using h
              omega
          · rw [stepR_k2_bad hc] at hs; cases hs
        · rw [stepR_k0 hk1 hk2] at hs
          cases hs
          rcases List.mem_append.1 hk with h | h
          · exact h0 k h
          · have : k = 1 := by simpa using h
            omega
/-- The last error of nodes that are right. -/
theorem MadeR.last {β : Nat → Option Obj} {xs : List NodeV} {ts : List ErrT} {EH : Heap} (hM : MadeR β xs ts EH) (h0 : 0 < xs.length) : ∃ t, ts[xs.length - 1]? = some t ∧ t.Lies β EH ∧ t.pre.length ≤ 200 ∧ (runS xs)[xs.length - 1]? = some t.sh := by
  obtain ⟨t, ht⟩ : ∃ t, ts[xs.length - 1]? = some t := ⟨_, List.getElem?_eq_getElem (by have := hM.len; omega)⟩
  refine ⟨t, ht, hM.lies t (List.mem_of_getElem? ht), ?_, ?_⟩
  · exact foldR_bd xs [] _ (fun k hk => by cases hk) hM.sz _ (List.mem_map.2 ⟨t, List.mem_of_getElem? ht, rfl⟩)
  · rw [← hM.sh, List.getElem?_map, ht]; rfl
end Go.Proofs.YtpnbcegefhdmdaaDoor
