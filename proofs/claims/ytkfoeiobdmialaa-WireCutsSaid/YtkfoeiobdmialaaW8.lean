/- Wire: frames one behind the other, and where they are cut. -/
import Derived.Test.YtkfoeiobdmialaaW7
import Derived.Test.YtkfoeiobdmialaaK15
namespace Go.Proofs.Ytkfoeiobdmialaa
open Go Go.K Go.RowKit

def frs (Ls : List (List Nat)) : List Nat := Ls.flatMap fun L => hdr L.length ++ L
theorem frs_cons (L : List Nat) (Ls : List (List Nat)) : frs (L :: Ls) = hdr L.length ++ L ++ frs Ls := by simp [frs]
theorem frs_append (A B : List (List Nat)) : frs (A ++ B) = frs A ++ frs B := by simp [frs]
theorem frs_split (Ls : List (List Nat)) (q : Nat) : frs Ls = frs (Ls.take q) ++ frs (Ls.drop q) := by rw [← frs_append, List.take_append_drop]
theorem frs_byt {Ls : List (List Nat)} (h : ∀ L ∈ Ls, Byt L) : Byt (frs Ls) := by
  intro n hn
  obtain ⟨L, hL, hn⟩ := List.mem_flatMap.1 hn
  rcases List.mem_append.1 hn with h1 | h1
  · exact bes_byt _ _ _ n h1
  · exact h L hL n h1
theorem frs_len : ∀ {Ls : List (List Nat)}, (∀ L ∈ Ls, L.length ≤ 100) → (frs Ls).length ≤ 104 * Ls.length
  | [], _ => by simp [frs]
  | L :: Ls, h => by
    have h1 := h L List.mem_cons_self
    have := frs_len (Ls := Ls) (fun M hM => h M (List.mem_cons_of_mem _ hM))
    rw [frs_cons, List.length_append, List.length_append, hdr_len, List.length_cons]
    omega
theorem cutE_short {xs : List Nat} (h : xs.length < 4) : cutE xs = 17 := by
  rw [cutE]; simp; omega
/-- What a beginning of frames is split to. -/
theorem splT_frs : ∀ (Ls : List (List Nat)) (c : Nat) (out : List (List Nat)) (f : Nat), (∀ L ∈ Ls, L.length ≤ 131072) → ((frs Ls).take c).length ≤ f →
    ∃ q, q ≤ Ls.length ∧ (frs (Ls.take q)).length ≤ c ∧ ((frs Ls).length ≤ c → q = Ls.length) ∧ splT f out ((frs Ls).take c) = (out ++ Ls.take q, (frs (Ls.drop q)).take (c - (frs (Ls.take q)).length), 0)
  | [], c, out, f, _, _ => ⟨0, Nat.le_refl _, by simp [frs], fun _ => rfl, by
      rw [splT_stop (by simp [frs]; decide)]; simp [frs]⟩
  | L :: Ls, c, out, f, h, hf => by
    have hL := h L List.mem_cons_self
    by_cases hc : 4 + L.length ≤ c
    · obtain ⟨c', rfl⟩ : ∃ c', c = (4 + L.length) + c' := ⟨c - (4 + L.length), by omega⟩
      have e1 : (frs (L :: Ls)).take (4 + L.length + c') = hdr L.length ++ L ++ (frs Ls).take c' := by
        rw [frs_cons, List.take_append, List.take_of_length_le (by simp only [List.length_append, hdr_len]; omega)]
        congr 1
        simp only [List.length_append, hdr_len]
        congr 1
        omega
      rw [e1] at hf ⊢
      obtain ⟨h1, h2, h3, h4⟩ := frame_cut (ys := (frs Ls).take c') hL
      cases f with
      | zero => simp only [List.length_append, hdr_len] at hf; omega
      | succ f =>
        obtain ⟨q, g1, g2, g3, g4⟩ := splT_frs Ls c' (out ++ [L]) f (fun M hM => h M (List.mem_cons_of_mem _ hM)) (by simp only [List.length_append, hdr_len] at hf ⊢; omega)
        refine ⟨q + 1, by simpa using g1, ?_, ?_, ?_⟩
        · rw [List.take_succ_cons, frs_cons, List.length_append, List.length_append, hdr_len]; omega
        · intro hle
          rw [frs_cons, List.length_append, List.length_append, hdr_len] at hle
          rw [g3 (by omega)]; rfl
        · rw [splT, if_pos h1, h2, h3, h4, g4, List.take_succ_cons, List.drop_succ_cons, List.append_assoc, frs_cons]
          simp only [List.singleton_append, List.length_append, hdr_len]
          congr 3
          omega
    · refine ⟨0, Nat.zero_le _, by simp [frs], ?_, ?_⟩
      · intro hle
        rw [frs_cons, List.length_append, List.length_append, hdr_len] at hle
        omega
      · have e1 : (frs (L :: Ls)).take c = (hdr L.length ++ L).take c := by
          rw [frs_cons, List.take_append_of_le_length (by simp only [List.length_append, hdr_len]; omega)]
        have hst : cutE ((frs (L :: Ls)).take c) = 17 := by
          rw [e1]
          by_cases h4 : c < 4
          · exact cutE_short (by rw [List.length_take]; omega)
          · have e2 : ((hdr L.length ++ L).take c).take 4 = hdr L.length := by
              rw [List.take_take, show min 4 c = 4 by omega, List.take_left' (hdr_len _)]
            have e3 : ((hdr L.length ++ L).take c).length = c := by
              rw [List.length_take, List.length_append, hdr_len]; omega
            rw [cutE, e2, hdr_num hL, e3, if_neg (by omega), if_neg (by omega), if_pos (by omega)]
        rw [splT_stop hst]
        simp [frs]
theorem spl_frs {Ls : List (List Nat)} {q a b : Nat} (h : ∀ L ∈ Ls, L.length ≤ 131072) (hq : q ≤ Ls.length) (hF : (frs (Ls.take q)).length ≤ a) (hab : a ≤ b) (hb : b ≤ (frs Ls).length) :
    ∃ q', q ≤ q' ∧ q' ≤ Ls.length ∧ (frs (Ls.take q')).length ≤ b ∧ ((frs Ls).length ≤ b → q' = Ls.length) ∧
      spl ((frs (Ls.drop q)).take (a - (frs (Ls.take q)).length) ++ ((frs Ls).drop a).take (b - a)) = ((Ls.drop q).take (q' - q), (frs (Ls.drop q')).take (b - (frs (Ls.take q')).length), 0) ∧ Ls.take q' = Ls.take q ++ (Ls.drop q).take (q' - q) := by
  have hs := frs_split Ls q
  have e1 : (frs (Ls.drop q)).take (a - (frs (Ls.take q)).length) ++ ((frs Ls).drop a).take (b - a) = (frs (Ls.drop q)).take (b - (frs (Ls.take q)).length) := by
    obtain ⟨d, rfl⟩ : ∃ d, a = (frs (Ls.take q)).length + d := ⟨a - (frs (Ls.take q)).length, by omega⟩
    rw [hs, List.drop_append, List.drop_of_length_le (l := frs (Ls.take q)) (by omega), List.nil_append, Nat.add_sub_cancel_left, show b - (frs (Ls.take q)).length = d + (b - ((frs (Ls.take q)).length + d)) by omega, ← List.take_add]
  rw [e1]
  obtain ⟨r, g1, g2, g3, g4⟩ := splT_frs (Ls.drop q) (b - (frs (Ls.take q)).length) [] ((frs (Ls.drop q)).take (b - (frs (Ls.take q)).length)).length (fun L hL => h L (List.mem_of_mem_drop hL)) (Nat.le_refl _)
  have hlen : (Ls.drop q).length = Ls.length - q := List.length_drop
  have e2 : Ls.take (q + r) = Ls.take q ++ (Ls.drop q).take r := List.take_add
  have e3 : (frs (Ls.take (q + r))).length = (frs (Ls.take q)).length + (frs ((Ls.drop q).take r)).length := by rw [e2, frs_append, List.length_append]
  have e4 : (frs Ls).length = (frs (Ls.take q)).length + (frs (Ls.drop q)).length := by rw [← List.length_append, ← hs]
  refine ⟨q + r, by omega, by omega, by omega, fun hle => by have := g3 (by omega); omega, ?_, ?_⟩
  · rw [spl, g4, Nat.add_sub_cancel_left, List.nil_append, List.drop_drop, e3, show b - (frs (Ls.take q)).length - (frs ((Ls.drop q).take r)).length = b - ((frs (Ls.take q)).length + (frs ((Ls.drop q).take r)).length) by omega]
  · rw [Nat.add_sub_cancel_left]; exact e2
/-- Rows of bytes that were handed in. -/
theorem rows_of {P : Program} {β : Nat → Option Obj} {t e : TypeId} (hu : P.underlying t = some (.slice e)) (he : P.underlying e = some (.int .u8)) (hl : lvs P 8 e = some [e]) (hn : P.cellsOf e = 1) (hb : P.bytesOf e = 1) : ∀ {m : Nat} {xs : List Value}, xs.length = m → (∀ i, i < m → RdL P β [t] ((xs.drop i).take 1)) →
    ∃ Ls : List (List Nat), RV β [] Ls xs ∧ Ls.length = m ∧ (∀ L ∈ Ls, Byt L ∧ L.length ≤ 140737488351232)
  | 0, xs, hx, _ => ⟨[], ⟨by simpa using hx, fun i L h => by simp at h⟩, rfl, fun L h => by cases h⟩
  | m + 1, xs, hx, h => by
    match xs, hx with
    | x :: r, hx =>
      obtain ⟨c, h1, h2⟩ := (h 0 (by omega)).one
      simp only [List.drop_zero, List.take_succ_cons, List.take_zero, List.cons.injEq, and_true] at h1
      subst h1
      obtain ⟨p, k, cap, l, rfl, hB⟩ := rd_bytes hu he hl hn hb h2
      obtain ⟨Ls, g1, g2, g3⟩ := rows_of hu he hl hn hb (m := m) (xs := r) (by simpa using hx) (fun i hi => by
        have := h (i + 1) (by omega)
        rwa [List.drop_succ_cons] at this)
      refine ⟨l :: Ls, (RV.one hB.len hB.sl hB.cap hB.none).append g1, by simp [g2], fun L hL => ?_⟩
      rcases List.mem_cons.1 hL with rfl | hL
      · exact ⟨hB.byt, by rw [hB.len]; exact hB.bd⟩
      · exact g3 L hL
end Go.Proofs.Ytkfoeiobdmialaa
