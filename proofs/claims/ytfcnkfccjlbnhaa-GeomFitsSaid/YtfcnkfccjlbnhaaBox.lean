/- GeomBox: which boxes lie on a map, and which cells in a box. -/
import Derived.Test.YtfcnkfccjlbnhaaG9
import Derived.Test.YtfcnkfccjlbnhaaG4
import Derived.Test.YtfcnkfccjlbnhaaKG
namespace Go.Proofs.Ytfcnkfccjlbnhaa
open Go.K Go.ChangeShapes Go.WideShapes Go.ChangeAt Go.RowKit

def hasB (x y : Int) (w : Nat) (u v : Int) : Nat → Bool
  | 0 => false
  | j + 1 => hasB x y w u v j || (decide (x + ((j % w : Nat) : Int) = u) && decide (y + ((j / w : Nat) : Int) = v))
theorem boxI_inv {x y bw bh : Int} {j : Nat} {it : List Value} (h : (boxI x y bw bh)[j]? = some it) :
    gRight x y bw bh = true ∧ 0 < bw ∧ 0 < bh ∧ j < bh.toNat * bw.toNat ∧ it = [.agg #[.int .i64 (x + ((j % bw.toNat : Nat) : Int)), .int .i64 (y + ((j / bw.toNat : Nat) : Int))]] := by
  unfold boxI at h
  split at h
  · rename_i hr
    have h1 : j < bh.toNat * bw.toNat := by rw [← boxL_len x y]; exact (List.getElem?_eq_some_iff.1 h).1
    have h2 : (boxL x y bw.toNat bh.toNat)[j]? = some (cellV x y bw.toNat j) := by simp [boxL, h1]
    rw [h2] at h
    have h3 : 0 < bw.toNat := Nat.pos_of_ne_zero (fun e => by rw [e] at h1; simp at h1)
    have h4 : 0 < bh.toNat := Nat.pos_of_ne_zero (fun e => by rw [e] at h1; simp at h1)
    exact ⟨hr, by omega, by omega, h1, (Option.some.inj h).symm⟩
  · simp at h
theorem boxI_len (x y bw bh : Int) : (boxI x y bw bh).length = if gRight x y bw bh then bh.toNat * bw.toNat else 0 := by
  unfold boxI; split
  · exact boxL_len _ _ _ _
  · rfl
theorem in_box {x y bw bh : Int} {j : Nat} (hr : gRight x y bw bh = true) (hw : 0 < bw) (hj : j < bh.toNat * bw.toNat) : ((j % bw.toNat : Nat) : Int) < bw ∧ ((j / bw.toNat : Nat) : Int) < bh ∧ ((j % bw.toNat : Nat) : Int) = (j : Int) % bw ∧ ((j / bw.toNat : Nat) : Int) = (j : Int) / bw ∧ 0 ≤ (j : Int) / bw ∧ 0 ≤ ((j / bw.toNat : Nat) : Int) := by
  have h0 : 0 < bw.toNat := by omega
  have h1 := Nat.mod_lt j h0
  have h2 : j / bw.toNat < bh.toNat := Nat.div_lt_of_lt_mul (by rw [Nat.mul_comm]; exact hj)
  have e : ((bw.toNat : Nat) : Int) = bw := Int.toNat_of_nonneg (by omega)
  have h5 := Int.natCast_nonneg (j / bw.toNat)
  have e4 : ((j / bw.toNat : Nat) : Int) = (j : Int) / bw := by rw [Int.natCast_ediv, e]
  refine ⟨by omega, by omega, by rw [Int.natCast_emod, e], e4, by rw [← e4]; exact h5, h5⟩
theorem hasB_iff (x y u v : Int) (w : Nat) : ∀ m : Nat, hasB x y w u v m = true ↔ ∃ j, j < m ∧ x + ((j % w : Nat) : Int) = u ∧ y + ((j / w : Nat) : Int) = v
  | 0 => by simp [hasB]
  | m + 1 => by
    simp only [hasB, Bool.or_eq_true, hasB_iff x y u v w m, Bool.and_eq_true, decide_eq_true_eq]
    constructor
    · rintro (⟨j, h1, h2⟩ | h)
      · exact ⟨j, by omega, h2⟩
      · exact ⟨m, by omega, h⟩
    · rintro ⟨j, h1, h2⟩
      by_cases e : j = m
      · subst e; exact .inr h2
      · exact .inl ⟨j, by omega, h2⟩
theorem has_all {x y bw bh u v : Int} : hasB x y bw.toNat u v (boxI x y bw bh).length = gHas x y bw bh u v := by
  rw [Bool.eq_iff_iff, hasB_iff, boxI_len]
  by_cases hr : gRight x y bw bh = true
  · have hb := hr
    simp only [gRight, smp, btw, Bool.and_eq_true, decide_eq_true_eq] at hb
    simp only [hr, if_true, gHas, btw, Bool.true_and, Bool.and_eq_true, decide_eq_true_eq]
    constructor
    · rintro ⟨j, h1, h2, h3⟩
      have hw : 0 < bw := by
        by_cases h : 0 < bw
        · exact h
        · have : bw.toNat = 0 := by omega
          rw [this] at h1; simp at h1
      obtain ⟨a1, a2, _, _, a3, a4⟩ := in_box hr hw h1
      omega
    · intro h
      have e1 : (bw.toNat : Int) = bw := Int.toNat_of_nonneg (by omega)
      have e2 : (bh.toNat : Int) = bh := Int.toNat_of_nonneg (by omega)
      obtain ⟨p, hp⟩ : ∃ p : Nat, (p : Int) = u - x := ⟨(u - x).toNat, by omega⟩
      obtain ⟨q, hq⟩ : ∃ q : Nat, (q : Int) = v - y := ⟨(v - y).toNat, by omega⟩
      have hpw : p < bw.toNat := by omega
      have hqh : q < bh.toNat := by omega
      refine ⟨q * bw.toNat + p, ?_, ?_, ?_⟩
      · have : (q + 1) * bw.toNat ≤ bh.toNat * bw.toNat := Nat.mul_le_mul_right _ (by omega)
        rw [Nat.add_mul] at this; omega
      · have e3 : (q * bw.toNat + p) % bw.toNat = p := by rw [Nat.mul_comm, Nat.mul_add_mod]; exact Nat.mod_eq_of_lt hpw
        rw [e3]; omega
      · have e4 : (q * bw.toNat + p) / bw.toNat = q := by rw [Nat.mul_comm, Nat.mul_add_div (by omega), Nat.div_eq_of_lt hpw]; omega
        rw [e4]; omega
  · have hr' : gRight x y bw bh = false := by simpa using hr
    simp [hr', gHas]

set_option maxHeartbeats 2000000 in
theorem GeomBox_p (w h x y bw bh u v : Int) : Go.K.Pure Try.prog 8 #[.agg #[.int .i64 w, .int .i64 h], .agg #[.int .i64 x, .int .i64 y, .int .i64 bw, .int .i64 bh], .agg #[.int .i64 u, .int .i64 v]] (.bool true) := by
  refine Tr.pure ?_
  refine Tr.of_body Try.tt (args := [.agg #[.int .i64 w, .int .i64 h], .agg #[.int .i64 x, .int .i64 y, .int .i64 bw, .int .i64 bh], .agg #[.int .i64 u, .int .i64 v]]) (fr := [(0, true, .agg #[.int .i64 w, .int .i64 h]), (1, true, .agg #[.int .i64 x, .int .i64 y, .int .i64 bw, .int .i64 bh]), (2, true, .agg #[.int .i64 u, .int .i64 v])]) Try.func8 rfl (by decide) rfl Try.ntmps8 rfl rfl ?_
  intro E hE
  repeat' (first
    | refine KW.seq ?_
    | refine KW.region ?_
    | refine KO.nil ?_
    | refine At.then_normal ?_
    | refine KW.skip ?_
    | refine KW.ret ?_
    | refine At.then_ret ?_
    | refine KW.block ?_
    | refine KW.exit ?_
    | refine At.block_normal ?_
    | refine At.block_ret ?_
    | refine At.loop_ret ?_
    | refine At.then_exit ?_
    | refine At.block_here rfl ?_
    | refine At.block_there rfl ?_
    | refine At.loop_exit ?_
    | refine At.cut_ret ?_
    | refine At.cut_exit ?_
    | (refine At.cut_same ?_; repeat' (first | exact FLe.nil _ | refine FLe.cons rfl rfl ?_))
    | refine KW.cond_t rfl (by first | with_reducible rfl | decide) ?_
    | refine KW.cond_f rfl (by first | with_reducible rfl | decide) ?_
    | refine KW.draw 0 (by decide +kernel) ?_
    | refine KW.drawU rfl (by decide +kernel) ?_
    | refine KD.zero ?_
    | refine KD.skip' rfl (by first | with_reducible rfl | decide) rfl rfl ?_
    | refine KO.skip' rfl (by first | with_reducible rfl | decide) rfl rfl ?_
    | refine KO.skip0' rfl (by first | with_reducible rfl | decide) rfl ?_
    | ((first | apply KO.val rfl rfl rfl | apply KO.valIn rfl rfl rfl | apply KD.val rfl rfl rfl | apply KD.valIn rfl rfl rfl); (((first | ((first | apply qt_add rfl rfl rfl ?hi ?om | apply qt_sub rfl rfl rfl ?hi ?om | apply qt_mul rfl rfl rfl ?hi ?om | apply qt_remN rfl rfl rfl ?hi ?om | apply qt_quoN rfl rfl rfl ?hi ?om); (case om => (intro hg; first | omega | (simp only [Bool.or_eq_false_iff, Bool.or_eq_true, Bool.and_eq_true, Bool.and_eq_false_iff, Bool.not_eq_true', Bool.not_eq_false', Bool.not_eq_true, Bool.not_eq_false, decide_eq_true_eq, decide_eq_false_iff_not, Bool.not_not, beq_iff_eq, bne_iff_ne, Bool.beq_eq_decide_eq] at hg; omega)))) | apply qt_ev rfl ?hi | (apply qt_load1 rfl rfl ?hi rfl rfl ?hm ?hc; (case hm => repeat (first | exact List.Mem.head _ | apply List.Mem.tail _ | apply List.mem_append_right _)); (case hc => rfl)) | (apply qt_loadN rfl rfl ?hi rfl rfl rfl ?hm ?hc; (case hm => repeat (first | exact List.Mem.head _ | apply List.Mem.tail _ | apply List.mem_append_right _)); (case hc => rfl)) | ((first | apply qt_indexAddr_arr rfl rfl rfl ?hi rfl rfl ?om | apply qt_indexAddr_slice rfl rfl rfl ?hi rfl rfl ?om); (case om => (intro hg; first | omega | (simp only [Bool.or_eq_false_iff, Bool.or_eq_true, Bool.and_eq_true, Bool.and_eq_false_iff, Bool.not_eq_true', Bool.not_eq_false', Bool.not_eq_true, Bool.not_eq_false, decide_eq_true_eq, decide_eq_false_iff_not, Bool.not_not, beq_iff_eq, bne_iff_ne, Bool.beq_eq_decide_eq] at hg; omega)))) | apply qt_call rfl rfl ?hi (fun hg => Fits_p _ _ _ _ _ _) | apply qt_call rfl rfl ?hi (fun hg => rFits_p _ _ _ _ _ _) | apply qt_call rfl rfl ?hi (fun hg => Has_p _ _ _ _ _ _) | apply qt_call rfl rfl ?hi (fun hg => rHas_p _ _ _ _ _ _) | apply qt_pick_t rfl rfl (by first | with_reducible rfl | decide) rfl ?hi | apply qt_pick_f rfl rfl (by first | with_reducible rfl | decide) rfl ?hi | ((first | apply qt_pick_and rfl rfl rfl ?hi ?pj | apply qt_pick_or rfl rfl rfl ?hi ?pj); (case pj => (intro h h2; first | with_reducible exact h2 | with_reducible rfl | (simp [h2]; done) | (simp_all; done)))) | apply qt_build rfl rfl ?hi rfl | apply qt_eqs rfl rfl rfl ?hi rfl (Or.inl rfl) | apply qt_nes rfl rfl rfl ?hi rfl (Or.inl rfl) | ((first | apply qt_rem rfl rfl rfl ?hi ?om | apply qt_quo rfl rfl rfl ?hi ?om | apply qt_shr rfl rfl rfl ?hi ?om | apply qt_shl rfl rfl rfl ?hi ?om); (case om => (intro hg; first | omega | (simp only [Bool.or_eq_false_iff, Bool.or_eq_true, Bool.and_eq_true, Bool.and_eq_false_iff, Bool.not_eq_true', Bool.not_eq_false', Bool.not_eq_true, Bool.not_eq_false, decide_eq_true_eq, decide_eq_false_iff_not, Bool.not_not, beq_iff_eq, bne_iff_ne, Bool.beq_eq_decide_eq] at hg; omega))))); (case hi => (intro h; (repeat' (first | with_reducible exact alln | with_reducible refine allc ?_ ?_ | with_reducible refine andi ?_ ?_)); all_goals (first | with_reducible rfl | with_reducible exact h | with_reducible exact andl h | with_reducible exact andr h | with_reducible exact andl (andl h) | (simp only [h, Bool.and_self]; done) | (simp [h]; done) | (simp_all; done)))))))
    | (refine KO.box rfl rfl rfl rfl rfl rfl ?_; intro _ _)
    | (refine KO.alloc rfl rfl rfl rfl rfl rfl ?_; intro _ _)
    | (refine KO.buildSlice rfl rfl rfl rfl rfl rfl rfl rfl rfl rfl rfl rfl rfl rfl ?_; intro _ _)
    | ((first | apply KO.store (i := 0) rfl rfl rfl rfl rfl rfl rfl rfl ?hl rfl ?hw ?ho ?hs | apply KO.store (i := 1) rfl rfl rfl rfl rfl rfl rfl rfl ?hl rfl ?hw ?ho ?hs | apply KO.store (i := 2) rfl rfl rfl rfl rfl rfl rfl rfl ?hl rfl ?hw ?ho ?hs | apply KO.store (i := 3) rfl rfl rfl rfl rfl rfl rfl rfl ?hl rfl ?hw ?ho ?hs | apply KO.store (i := 4) rfl rfl rfl rfl rfl rfl rfl rfl ?hl rfl ?hw ?ho ?hs | apply KO.store (i := 5) rfl rfl rfl rfl rfl rfl rfl rfl ?hl rfl ?hw ?ho ?hs | apply KO.store (i := 6) rfl rfl rfl rfl rfl rfl rfl rfl ?hl rfl ?hw ?ho ?hs | apply KO.store (i := 7) rfl rfl rfl rfl rfl rfl rfl rfl ?hl rfl ?hw ?ho ?hs); (case hl => rfl); (case hw => rfl); (case ho => rfl); (case hs => rfl))
    | (refine KW.cond rfl ?_ ?_ <;> (intro hc; try simp only [Bool.or_eq_false_iff, Bool.or_eq_true, Bool.and_eq_true, Bool.and_eq_false_iff, Bool.not_eq_true', Bool.not_eq_false', Bool.not_eq_true, Bool.not_eq_false, decide_eq_true_eq, decide_eq_false_iff_not, Bool.not_not, beq_iff_eq, bne_iff_ne, Bool.beq_eq_decide_eq] at hc))
    | fail)
  · exfalso; simp at hc
  · refine KO.callE rfl rfl rfl rfl rfl rfl rfl rfl (Cells_p x y bw bh _) ?_
    rintro _ _ ⟨bc, rfl, rfl⟩
    repeat' (first
      | refine KW.seq ?_
      | refine KW.region ?_
      | refine KO.nil ?_
      | refine At.then_normal ?_
      | refine KW.skip ?_
      | refine KW.ret ?_
      | refine At.then_ret ?_
      | refine KW.block ?_
      | refine KW.exit ?_
      | refine At.block_normal ?_
      | refine At.block_ret ?_
      | refine At.loop_ret ?_
      | refine At.then_exit ?_
      | refine At.block_here rfl ?_
      | refine At.block_there rfl ?_
      | refine At.loop_exit ?_
      | refine At.cut_ret ?_
      | refine At.cut_exit ?_
      | (refine At.cut_same ?_; repeat' (first | exact FLe.nil _ | refine FLe.cons rfl rfl ?_))
      | refine KW.cond_t rfl (by first | with_reducible rfl | decide) ?_
      | refine KW.cond_f rfl (by first | with_reducible rfl | decide) ?_
      | refine KW.draw 0 (by decide +kernel) ?_
      | refine KW.drawU rfl (by decide +kernel) ?_
      | refine KD.zero ?_
      | refine KD.skip' rfl (by first | with_reducible rfl | decide) rfl rfl ?_
      | refine KO.skip' rfl (by first | with_reducible rfl | decide) rfl rfl ?_
      | refine KO.skip0' rfl (by first | with_reducible rfl | decide) rfl ?_
      | ((first | apply KO.val rfl rfl rfl | apply KO.valIn rfl rfl rfl | apply KD.val rfl rfl rfl | apply KD.valIn rfl rfl rfl); (((first | ((first | apply qt_add rfl rfl rfl ?hi ?om | apply qt_sub rfl rfl rfl ?hi ?om | apply qt_mul rfl rfl rfl ?hi ?om | apply qt_remN rfl rfl rfl ?hi ?om | apply qt_quoN rfl rfl rfl ?hi ?om); (case om => (intro hg; first | omega | (simp only [Bool.or_eq_false_iff, Bool.or_eq_true, Bool.and_eq_true, Bool.and_eq_false_iff, Bool.not_eq_true', Bool.not_eq_false', Bool.not_eq_true, Bool.not_eq_false, decide_eq_true_eq, decide_eq_false_iff_not, Bool.not_not, beq_iff_eq, bne_iff_ne, Bool.beq_eq_decide_eq] at hg; omega)))) | apply qt_ev rfl ?hi | (apply qt_load1 rfl rfl ?hi rfl rfl ?hm ?hc; (case hm => repeat (first | exact List.Mem.head _ | apply List.Mem.tail _ | apply List.mem_append_right _)); (case hc => rfl)) | (apply qt_loadN rfl rfl ?hi rfl rfl rfl ?hm ?hc; (case hm => repeat (first | exact List.Mem.head _ | apply List.Mem.tail _ | apply List.mem_append_right _)); (case hc => rfl)) | ((first | apply qt_indexAddr_arr rfl rfl rfl ?hi rfl rfl ?om | apply qt_indexAddr_slice rfl rfl rfl ?hi rfl rfl ?om); (case om => (intro hg; first | omega | (simp only [Bool.or_eq_false_iff, Bool.or_eq_true, Bool.and_eq_true, Bool.and_eq_false_iff, Bool.not_eq_true', Bool.not_eq_false', Bool.not_eq_true, Bool.not_eq_false, decide_eq_true_eq, decide_eq_false_iff_not, Bool.not_not, beq_iff_eq, bne_iff_ne, Bool.beq_eq_decide_eq] at hg; omega)))) | apply qt_pick_t rfl rfl (by first | with_reducible rfl | decide) rfl ?hi | apply qt_pick_f rfl rfl (by first | with_reducible rfl | decide) rfl ?hi | ((first | apply qt_pick_and rfl rfl rfl ?hi ?pj | apply qt_pick_or rfl rfl rfl ?hi ?pj); (case pj => (intro h h2; first | with_reducible exact h2 | with_reducible rfl | (simp [h2]; done) | (simp_all; done)))) | apply qt_build rfl rfl ?hi rfl | apply qt_eqs rfl rfl rfl ?hi rfl (Or.inl rfl) | apply qt_nes rfl rfl rfl ?hi rfl (Or.inl rfl) | ((first | apply qt_rem rfl rfl rfl ?hi ?om | apply qt_quo rfl rfl rfl ?hi ?om | apply qt_shr rfl rfl rfl ?hi ?om | apply qt_shl rfl rfl rfl ?hi ?om); (case om => (intro hg; first | omega | (simp only [Bool.or_eq_false_iff, Bool.or_eq_true, Bool.and_eq_true, Bool.and_eq_false_iff, Bool.not_eq_true', Bool.not_eq_false', Bool.not_eq_true, Bool.not_eq_false, decide_eq_true_eq, decide_eq_false_iff_not, Bool.not_not, beq_iff_eq, bne_iff_ne, Bool.beq_eq_decide_eq] at hg; omega))))); (case hi => (intro h; (repeat' (first | with_reducible exact alln | with_reducible refine allc ?_ ?_ | with_reducible refine andi ?_ ?_)); all_goals (first | with_reducible rfl | with_reducible exact h | with_reducible exact andl h | with_reducible exact andr h | with_reducible exact andl (andl h) | (simp only [h, Bool.and_self]; done) | (simp [h]; done) | (simp_all; done)))))))
      | (refine KO.box rfl rfl rfl rfl rfl rfl ?_; intro _ _)
      | (refine KO.alloc rfl rfl rfl rfl rfl rfl ?_; intro _ _)
      | (refine KO.buildSlice rfl rfl rfl rfl rfl rfl rfl rfl rfl rfl rfl rfl rfl rfl ?_; intro _ _)
      | ((first | apply KO.store (i := 0) rfl rfl rfl rfl rfl rfl rfl rfl ?hl rfl ?hw ?ho ?hs | apply KO.store (i := 1) rfl rfl rfl rfl rfl rfl rfl rfl ?hl rfl ?hw ?ho ?hs | apply KO.store (i := 2) rfl rfl rfl rfl rfl rfl rfl rfl ?hl rfl ?hw ?ho ?hs | apply KO.store (i := 3) rfl rfl rfl rfl rfl rfl rfl rfl ?hl rfl ?hw ?ho ?hs | apply KO.store (i := 4) rfl rfl rfl rfl rfl rfl rfl rfl ?hl rfl ?hw ?ho ?hs | apply KO.store (i := 5) rfl rfl rfl rfl rfl rfl rfl rfl ?hl rfl ?hw ?ho ?hs | apply KO.store (i := 6) rfl rfl rfl rfl rfl rfl rfl rfl ?hl rfl ?hw ?ho ?hs | apply KO.store (i := 7) rfl rfl rfl rfl rfl rfl rfl rfl ?hl rfl ?hw ?ho ?hs); (case hl => rfl); (case hw => rfl); (case ho => rfl); (case hs => rfl))
      | (refine KW.cond rfl ?_ ?_ <;> (intro hc; try simp only [Bool.or_eq_false_iff, Bool.or_eq_true, Bool.and_eq_true, Bool.and_eq_false_iff, Bool.not_eq_true', Bool.not_eq_false', Bool.not_eq_true, Bool.not_eq_false, decide_eq_true_eq, decide_eq_false_iff_not, Bool.not_not, beq_iff_eq, bne_iff_ne, Bool.beq_eq_decide_eq] at hc))
      | fail)
    rename_i b1 _ b2 _ b3 _ b4 _ b5 _ b6 _
    refine KW.le (Le.mk (l := [1, 2, 3, 4, 5, 6, 0]) (FLe.refl _) rfl rfl) ?_
    refine KW.range [(b6, cl [.bool false] 4), (b5, cl [.int .i64 0] 3), (b4, cl [.bool false] 4), (b3, cl [.int .i64 u, .int .i64 v] 25), (b2, cl [.int .i64 x, .int .i64 y, .int .i64 bw, .int .i64 bh] 47), (b1, cl [.int .i64 w, .int .i64 h] 23)] [(bc, _)]
      (fun j σ => j ≤ (boxI x y bw bh).length ∧ σ = [(b6, cl [.bool (hasB x y bw.toNat u v j)] 4), (b5, cl [.int .i64 (j : Int)] 3), (b4, cl [.bool false] 4), (b3, cl [.int .i64 u, .int .i64 v] 25), (b2, cl [.int .i64 x, .int .i64 y, .int .i64 bw, .int .i64 bh] 47), (b1, cl [.int .i64 w, .int .i64 h] 23)])
      (fun _ _ => False)
      rfl rfl (Cells1_p x y bw bh bc _) trivial ?_ rfl ⟨Nat.zero_le _, rfl⟩ ?_ ?_ ?_
    · intro it hit
      obtain ⟨j, hj⟩ := List.mem_iff_getElem?.1 hit
      obtain ⟨_, _, _, _, rfl⟩ := boxI_inv hj
      rfl
    · rintro j it σ' hit ⟨hjl, rfl⟩ l E1 hE1
      have hjl2 : j < (boxI x y bw bh).length := (List.getElem?_eq_some_iff.1 hit).1
      obtain ⟨hr, hw, hh, hj, rfl⟩ := boxI_inv hit
      obtain ⟨i1, i2, i3, i4, i5, i6⟩ := in_box hr hw hj
      have hb := hr
      simp only [gRight, smp, btw, Bool.and_eq_true, decide_eq_true_eq] at hb
      have hj2 : (j : Int) < 65536 := by
        have : bh.toNat * bw.toNat ≤ 256 * 256 := Nat.mul_le_mul (by omega) (by omega)
        omega
      have hg : gHas x y bw bh (x + ((j % bw.toNat : Nat) : Int)) (y + ((j / bw.toNat : Nat) : Int)) = true := by
        simp only [gHas, hr, btw, Bool.true_and, Bool.and_eq_true, decide_eq_true_eq]; omega
      have hbw : bw ≠ 0 := by omega
      repeat' (first
        | refine KW.seq ?_
        | refine KW.region ?_
        | refine KO.nil ?_
        | refine At.then_normal ?_
        | refine KW.skip ?_
        | refine KW.ret ?_
        | refine At.then_ret ?_
        | refine KW.block ?_
        | refine KW.exit ?_
        | refine At.block_normal ?_
        | refine At.block_ret ?_
        | refine At.loop_ret ?_
        | refine At.then_exit ?_
        | refine At.block_here rfl ?_
        | refine At.block_there rfl ?_
        | refine At.loop_exit ?_
        | refine At.cut_ret ?_
        | refine At.cut_exit ?_
        | (refine At.cut_same ?_; repeat' (first | exact FLe.nil _ | refine FLe.cons rfl rfl ?_))
        | refine KW.cond_t rfl (by first | with_reducible rfl | decide) ?_
        | refine KW.cond_f rfl (by first | with_reducible rfl | decide) ?_
        | refine KW.draw 0 (by decide +kernel) ?_
        | refine KW.drawU rfl (by decide +kernel) ?_
        | refine KD.zero ?_
        | refine KD.skip' rfl (by first | with_reducible rfl | decide) rfl rfl ?_
        | refine KO.skip' rfl (by first | with_reducible rfl | decide) rfl rfl ?_
        | refine KO.skip0' rfl (by first | with_reducible rfl | decide) rfl ?_
        | ((first | apply KO.val rfl rfl rfl | apply KO.valIn rfl rfl rfl | apply KD.val rfl rfl rfl | apply KD.valIn rfl rfl rfl); (((first | ((first | apply qt_add rfl rfl rfl ?hi ?om | apply qt_sub rfl rfl rfl ?hi ?om | apply qt_mul rfl rfl rfl ?hi ?om | apply qt_remN rfl rfl rfl ?hi ?om | apply qt_quoN rfl rfl rfl ?hi ?om); (case om => (intro hg; first | omega | (simp only [Bool.or_eq_false_iff, Bool.or_eq_true, Bool.and_eq_true, Bool.and_eq_false_iff, Bool.not_eq_true', Bool.not_eq_false', Bool.not_eq_true, Bool.not_eq_false, decide_eq_true_eq, decide_eq_false_iff_not, Bool.not_not, beq_iff_eq, bne_iff_ne, Bool.beq_eq_decide_eq] at hg; omega)))) | apply qt_ev rfl ?hi | (apply qt_load1 rfl rfl ?hi rfl rfl ?hm ?hc; (case hm => repeat (first | exact List.Mem.head _ | apply List.Mem.tail _ | apply List.mem_append_right _)); (case hc => rfl)) | (apply qt_loadN rfl rfl ?hi rfl rfl rfl ?hm ?hc; (case hm => repeat (first | exact List.Mem.head _ | apply List.Mem.tail _ | apply List.mem_append_right _)); (case hc => rfl)) | ((first | apply qt_indexAddr_arr rfl rfl rfl ?hi rfl rfl ?om | apply qt_indexAddr_slice rfl rfl rfl ?hi rfl rfl ?om); (case om => (intro hg; first | omega | (simp only [Bool.or_eq_false_iff, Bool.or_eq_true, Bool.and_eq_true, Bool.and_eq_false_iff, Bool.not_eq_true', Bool.not_eq_false', Bool.not_eq_true, Bool.not_eq_false, decide_eq_true_eq, decide_eq_false_iff_not, Bool.not_not, beq_iff_eq, bne_iff_ne, Bool.beq_eq_decide_eq] at hg; omega)))) | apply qt_pick_t rfl rfl (by first | with_reducible rfl | decide) rfl ?hi | apply qt_pick_f rfl rfl (by first | with_reducible rfl | decide) rfl ?hi | ((first | apply qt_pick_and rfl rfl rfl ?hi ?pj | apply qt_pick_or rfl rfl rfl ?hi ?pj); (case pj => (intro h h2; first | with_reducible exact h2 | with_reducible rfl | (simp [h2]; done) | (simp_all; done)))) | apply qt_build rfl rfl ?hi rfl | apply qt_eqs rfl rfl rfl ?hi rfl (Or.inl rfl) | apply qt_nes rfl rfl rfl ?hi rfl (Or.inl rfl) | ((first | apply qt_rem rfl rfl rfl ?hi ?om | apply qt_quo rfl rfl rfl ?hi ?om | apply qt_shr rfl rfl rfl ?hi ?om | apply qt_shl rfl rfl rfl ?hi ?om); (case om => (intro hg; first | omega | (simp only [Bool.or_eq_false_iff, Bool.or_eq_true, Bool.and_eq_true, Bool.and_eq_false_iff, Bool.not_eq_true', Bool.not_eq_false', Bool.not_eq_true, Bool.not_eq_false, decide_eq_true_eq, decide_eq_false_iff_not, Bool.not_not, beq_iff_eq, bne_iff_ne, Bool.beq_eq_decide_eq] at hg; omega))))); (case hi => (intro h; (repeat' (first | with_reducible exact alln | with_reducible refine allc ?_ ?_ | with_reducible refine andi ?_ ?_)); all_goals (first | with_reducible rfl | with_reducible exact h | with_reducible exact andl h | with_reducible exact andr h | with_reducible exact andl (andl h) | (simp only [h, Bool.and_self]; done) | (simp [h]; done) | (simp_all; done)))))))
        | (refine KO.box rfl rfl rfl rfl rfl rfl ?_; intro _ _)
        | (refine KO.alloc rfl rfl rfl rfl rfl rfl ?_; intro _ _)
        | (refine KO.buildSlice rfl rfl rfl rfl rfl rfl rfl rfl rfl rfl rfl rfl rfl rfl ?_; intro _ _)
        | ((first | apply KO.store (i := 0) rfl rfl rfl rfl rfl rfl rfl rfl ?hl rfl ?hw ?ho ?hs | apply KO.store (i := 1) rfl rfl rfl rfl rfl rfl rfl rfl ?hl rfl ?hw ?ho ?hs | apply KO.store (i := 2) rfl rfl rfl rfl rfl rfl rfl rfl ?hl rfl ?hw ?ho ?hs | apply KO.store (i := 3) rfl rfl rfl rfl rfl rfl rfl rfl ?hl rfl ?hw ?ho ?hs | apply KO.store (i := 4) rfl rfl rfl rfl rfl rfl rfl rfl ?hl rfl ?hw ?ho ?hs | apply KO.store (i := 5) rfl rfl rfl rfl rfl rfl rfl rfl ?hl rfl ?hw ?ho ?hs | apply KO.store (i := 6) rfl rfl rfl rfl rfl rfl rfl rfl ?hl rfl ?hw ?ho ?hs | apply KO.store (i := 7) rfl rfl rfl rfl rfl rfl rfl rfl ?hl rfl ?hw ?ho ?hs); (case hl => rfl); (case hw => rfl); (case ho => rfl); (case hs => rfl))
        | (refine KW.cond rfl ?_ ?_ <;> (intro hc; try simp only [Bool.or_eq_false_iff, Bool.or_eq_true, Bool.and_eq_true, Bool.and_eq_false_iff, Bool.not_eq_true', Bool.not_eq_false', Bool.not_eq_true, Bool.not_eq_false, decide_eq_true_eq, decide_eq_false_iff_not, Bool.not_not, beq_iff_eq, bne_iff_ne, Bool.beq_eq_decide_eq] at hc))
        | fail)
      refine At.assigned (fun E2 hE2 hl2 => ?_)
      repeat' (first
        | refine KW.seq ?_
        | refine KW.region ?_
        | refine KO.nil ?_
        | refine At.then_normal ?_
        | refine KW.skip ?_
        | refine KW.ret ?_
        | refine At.then_ret ?_
        | refine KW.block ?_
        | refine KW.exit ?_
        | refine At.block_normal ?_
        | refine At.block_ret ?_
        | refine At.loop_ret ?_
        | refine At.then_exit ?_
        | refine At.block_here rfl ?_
        | refine At.block_there rfl ?_
        | refine At.loop_exit ?_
        | refine At.cut_ret ?_
        | refine At.cut_exit ?_
        | (refine At.cut_same ?_; repeat' (first | exact FLe.nil _ | refine FLe.cons rfl rfl ?_))
        | refine KW.cond_t rfl (by first | with_reducible rfl | decide) ?_
        | refine KW.cond_f rfl (by first | with_reducible rfl | decide) ?_
        | refine KW.draw 0 (by decide +kernel) ?_
        | refine KW.drawU rfl (by decide +kernel) ?_
        | refine KD.zero ?_
        | refine KD.skip' rfl (by first | with_reducible rfl | decide) rfl rfl ?_
        | refine KO.skip' rfl (by first | with_reducible rfl | decide) rfl rfl ?_
        | refine KO.skip0' rfl (by first | with_reducible rfl | decide) rfl ?_
        | ((first | apply KO.val rfl rfl rfl | apply KO.valIn rfl rfl rfl | apply KD.val rfl rfl rfl | apply KD.valIn rfl rfl rfl); (((first | ((first | apply qt_add rfl rfl rfl ?hi ?om | apply qt_sub rfl rfl rfl ?hi ?om | apply qt_mul rfl rfl rfl ?hi ?om | apply qt_remN rfl rfl rfl ?hi ?om | apply qt_quoN rfl rfl rfl ?hi ?om); (case om => (intro hg; first | omega | (simp only [Bool.or_eq_false_iff, Bool.or_eq_true, Bool.and_eq_true, Bool.and_eq_false_iff, Bool.not_eq_true', Bool.not_eq_false', Bool.not_eq_true, Bool.not_eq_false, decide_eq_true_eq, decide_eq_false_iff_not, Bool.not_not, beq_iff_eq, bne_iff_ne, Bool.beq_eq_decide_eq] at hg; omega)))) | apply qt_ev rfl ?hi | (apply qt_load1 rfl rfl ?hi rfl rfl ?hm ?hc; (case hm => repeat (first | exact List.Mem.head _ | apply List.Mem.tail _ | apply List.mem_append_right _)); (case hc => rfl)) | (apply qt_loadN rfl rfl ?hi rfl rfl rfl ?hm ?hc; (case hm => repeat (first | exact List.Mem.head _ | apply List.Mem.tail _ | apply List.mem_append_right _)); (case hc => rfl)) | ((first | apply qt_indexAddr_arr rfl rfl rfl ?hi rfl rfl ?om | apply qt_indexAddr_slice rfl rfl rfl ?hi rfl rfl ?om); (case om => (intro hg; first | omega | (simp only [Bool.or_eq_false_iff, Bool.or_eq_true, Bool.and_eq_true, Bool.and_eq_false_iff, Bool.not_eq_true', Bool.not_eq_false', Bool.not_eq_true, Bool.not_eq_false, decide_eq_true_eq, decide_eq_false_iff_not, Bool.not_not, beq_iff_eq, bne_iff_ne, Bool.beq_eq_decide_eq] at hg; omega)))) | apply qt_call rfl rfl ?hi (fun hg => rHas_p _ _ _ _ _ _) | apply qt_pick_t rfl rfl (by first | with_reducible rfl | decide) rfl ?hi | apply qt_pick_f rfl rfl (by first | with_reducible rfl | decide) rfl ?hi | ((first | apply qt_pick_and rfl rfl rfl ?hi ?pj | apply qt_pick_or rfl rfl rfl ?hi ?pj); (case pj => (intro h h2; first | with_reducible exact h2 | with_reducible rfl | (simp [h2]; done) | (simp_all; done)))) | apply qt_build rfl rfl ?hi rfl | apply qt_eqs rfl rfl rfl ?hi rfl (Or.inl rfl) | apply qt_nes rfl rfl rfl ?hi rfl (Or.inl rfl) | ((first | apply qt_rem rfl rfl rfl ?hi ?om | apply qt_quo rfl rfl rfl ?hi ?om | apply qt_shr rfl rfl rfl ?hi ?om | apply qt_shl rfl rfl rfl ?hi ?om); (case om => (intro hg; first | omega | (simp only [Bool.or_eq_false_iff, Bool.or_eq_true, Bool.and_eq_true, Bool.and_eq_false_iff, Bool.not_eq_true', Bool.not_eq_false', Bool.not_eq_true, Bool.not_eq_false, decide_eq_true_eq, decide_eq_false_iff_not, Bool.not_not, beq_iff_eq, bne_iff_ne, Bool.beq_eq_decide_eq] at hg; omega))))); (case hi => (intro h; (repeat' (first | with_reducible exact alln | with_reducible refine allc ?_ ?_ | with_reducible refine andi ?_ ?_)); all_goals (first | with_reducible rfl | with_reducible exact h | with_reducible exact andl h | with_reducible exact andr h | with_reducible exact andl (andl h) | (simp only [h, Bool.and_self]; done) | (simp [h]; done) | (simp_all; done)))))))
        | (refine KO.box rfl rfl rfl rfl rfl rfl ?_; intro _ _)
        | (refine KO.alloc rfl rfl rfl rfl rfl rfl ?_; intro _ _)
        | (refine KO.buildSlice rfl rfl rfl rfl rfl rfl rfl rfl rfl rfl rfl rfl rfl rfl ?_; intro _ _)
        | ((first | apply KO.store (i := 0) rfl rfl rfl rfl rfl rfl rfl rfl ?hl rfl ?hw ?ho ?hs | apply KO.store (i := 1) rfl rfl rfl rfl rfl rfl rfl rfl ?hl rfl ?hw ?ho ?hs | apply KO.store (i := 2) rfl rfl rfl rfl rfl rfl rfl rfl ?hl rfl ?hw ?ho ?hs | apply KO.store (i := 3) rfl rfl rfl rfl rfl rfl rfl rfl ?hl rfl ?hw ?ho ?hs | apply KO.store (i := 4) rfl rfl rfl rfl rfl rfl rfl rfl ?hl rfl ?hw ?ho ?hs | apply KO.store (i := 5) rfl rfl rfl rfl rfl rfl rfl rfl ?hl rfl ?hw ?ho ?hs | apply KO.store (i := 6) rfl rfl rfl rfl rfl rfl rfl rfl ?hl rfl ?hw ?ho ?hs | apply KO.store (i := 7) rfl rfl rfl rfl rfl rfl rfl rfl ?hl rfl ?hw ?ho ?hs); (case hl => rfl); (case hw => rfl); (case ho => rfl); (case hs => rfl))
        | (refine KW.cond rfl ?_ ?_ <;> (intro hc; try simp only [Bool.or_eq_false_iff, Bool.or_eq_true, Bool.and_eq_true, Bool.and_eq_false_iff, Bool.not_eq_true', Bool.not_eq_false', Bool.not_eq_true, Bool.not_eq_false, decide_eq_true_eq, decide_eq_false_iff_not, Bool.not_not, beq_iff_eq, bne_iff_ne, Bool.beq_eq_decide_eq] at hc))
        | fail)
      · exfalso
        rw [hg, i3, i4] at hc
        simp at hc
      · refine At.round_normal _ (List.Sublist.cons _ (List.Sublist.refl _)) ⟨hjl2, ?_⟩
        simp [hasB]
    · rintro σ' ⟨_, rfl⟩
      have hlen := boxI_len x y bw bh
      have hm := fun a b => mulb (A := 256) (B := 256) (a := bw) (b := bh) a b
      have hall := @has_all x y bw bh u v
      repeat' (first
        | refine KW.seq ?_
        | refine KW.region ?_
        | refine KO.nil ?_
        | refine At.then_normal ?_
        | refine KW.skip ?_
        | refine KW.ret ?_
        | refine At.then_ret ?_
        | refine KW.block ?_
        | refine KW.exit ?_
        | refine At.block_normal ?_
        | refine At.block_ret ?_
        | refine At.loop_ret ?_
        | refine At.then_exit ?_
        | refine At.block_here rfl ?_
        | refine At.block_there rfl ?_
        | refine At.loop_exit ?_
        | refine At.cut_ret ?_
        | refine At.cut_exit ?_
        | (refine At.cut_same ?_; repeat' (first | exact FLe.nil _ | refine FLe.cons rfl rfl ?_))
        | refine KW.cond_t rfl (by first | with_reducible rfl | decide) ?_
        | refine KW.cond_f rfl (by first | with_reducible rfl | decide) ?_
        | refine KW.draw 0 (by decide +kernel) ?_
        | refine KW.drawU rfl (by decide +kernel) ?_
        | refine KD.zero ?_
        | refine KD.skip' rfl (by first | with_reducible rfl | decide) rfl rfl ?_
        | refine KO.skip' rfl (by first | with_reducible rfl | decide) rfl rfl ?_
        | refine KO.skip0' rfl (by first | with_reducible rfl | decide) rfl ?_
        | ((first | apply KO.val rfl rfl rfl | apply KO.valIn rfl rfl rfl | apply KD.val rfl rfl rfl | apply KD.valIn rfl rfl rfl); (((first | ((first | apply qt_add rfl rfl rfl ?hi ?om | apply qt_sub rfl rfl rfl ?hi ?om | apply qt_mul rfl rfl rfl ?hi ?om | apply qt_remN rfl rfl rfl ?hi ?om | apply qt_quoN rfl rfl rfl ?hi ?om); (case om => (intro hg; first | omega | (simp only [Bool.or_eq_false_iff, Bool.or_eq_true, Bool.and_eq_true, Bool.and_eq_false_iff, Bool.not_eq_true', Bool.not_eq_false', Bool.not_eq_true, Bool.not_eq_false, decide_eq_true_eq, decide_eq_false_iff_not, Bool.not_not, beq_iff_eq, bne_iff_ne, Bool.beq_eq_decide_eq, gRight, smp, btw] at hg; omega)))) | apply qt_ev rfl ?hi | (apply qt_load1 rfl rfl ?hi rfl rfl ?hm ?hc; (case hm => repeat (first | exact List.Mem.head _ | apply List.Mem.tail _ | apply List.mem_append_right _)); (case hc => rfl)) | (apply qt_loadN rfl rfl ?hi rfl rfl rfl ?hm ?hc; (case hm => repeat (first | exact List.Mem.head _ | apply List.Mem.tail _ | apply List.mem_append_right _)); (case hc => rfl)) | ((first | apply qt_indexAddr_arr rfl rfl rfl ?hi rfl rfl ?om | apply qt_indexAddr_slice rfl rfl rfl ?hi rfl rfl ?om); (case om => (intro hg; first | omega | (simp only [Bool.or_eq_false_iff, Bool.or_eq_true, Bool.and_eq_true, Bool.and_eq_false_iff, Bool.not_eq_true', Bool.not_eq_false', Bool.not_eq_true, Bool.not_eq_false, decide_eq_true_eq, decide_eq_false_iff_not, Bool.not_not, beq_iff_eq, bne_iff_ne, Bool.beq_eq_decide_eq, gRight, smp, btw] at hg; omega)))) | apply qt_call rfl rfl ?hi (fun hg => rRight_p _ _ _ _) | apply qt_call rfl rfl ?hi (fun hg => awake_p) | apply qt_call rfl rfl ?hi (fun hg => rHas_p _ _ _ _ _ _) | apply qt_pick_t rfl rfl (by first | with_reducible rfl | decide) rfl ?hi | apply qt_pick_f rfl rfl (by first | with_reducible rfl | decide) rfl ?hi | ((first | apply qt_pick_and rfl rfl rfl ?hi ?pj | apply qt_pick_or rfl rfl rfl ?hi ?pj); (case pj => (intro h h2; first | with_reducible exact h2 | with_reducible rfl | (simp [h2]; done) | (simp_all; done)))) | apply qt_build rfl rfl ?hi rfl | apply qt_eqs rfl rfl rfl ?hi rfl (Or.inl rfl) | apply qt_nes rfl rfl rfl ?hi rfl (Or.inl rfl) | ((first | apply qt_rem rfl rfl rfl ?hi ?om | apply qt_quo rfl rfl rfl ?hi ?om | apply qt_shr rfl rfl rfl ?hi ?om | apply qt_shl rfl rfl rfl ?hi ?om); (case om => (intro hg; first | omega | (simp only [Bool.or_eq_false_iff, Bool.or_eq_true, Bool.and_eq_true, Bool.and_eq_false_iff, Bool.not_eq_true', Bool.not_eq_false', Bool.not_eq_true, Bool.not_eq_false, decide_eq_true_eq, decide_eq_false_iff_not, Bool.not_not, beq_iff_eq, bne_iff_ne, Bool.beq_eq_decide_eq, gRight, smp, btw] at hg; omega))))); (case hi => (intro h; (repeat' (first | with_reducible exact alln | with_reducible refine allc ?_ ?_ | with_reducible refine andi ?_ ?_)); all_goals (first | with_reducible rfl | with_reducible exact h | with_reducible exact andl h | with_reducible exact andr h | with_reducible exact andl (andl h) | (simp only [h, Bool.and_self]; done) | (simp [h]; done) | (simp_all; done)))))))
        | (refine KO.box rfl rfl rfl rfl rfl rfl ?_; intro _ _)
        | (refine KO.alloc rfl rfl rfl rfl rfl rfl ?_; intro _ _)
        | (refine KO.buildSlice rfl rfl rfl rfl rfl rfl rfl rfl rfl rfl rfl rfl rfl rfl ?_; intro _ _)
        | ((first | apply KO.store (i := 0) rfl rfl rfl rfl rfl rfl rfl rfl ?hl rfl ?hw ?ho ?hs | apply KO.store (i := 1) rfl rfl rfl rfl rfl rfl rfl rfl ?hl rfl ?hw ?ho ?hs | apply KO.store (i := 2) rfl rfl rfl rfl rfl rfl rfl rfl ?hl rfl ?hw ?ho ?hs | apply KO.store (i := 3) rfl rfl rfl rfl rfl rfl rfl rfl ?hl rfl ?hw ?ho ?hs | apply KO.store (i := 4) rfl rfl rfl rfl rfl rfl rfl rfl ?hl rfl ?hw ?ho ?hs | apply KO.store (i := 5) rfl rfl rfl rfl rfl rfl rfl rfl ?hl rfl ?hw ?ho ?hs | apply KO.store (i := 6) rfl rfl rfl rfl rfl rfl rfl rfl ?hl rfl ?hw ?ho ?hs | apply KO.store (i := 7) rfl rfl rfl rfl rfl rfl rfl rfl ?hl rfl ?hw ?ho ?hs); (case hl => rfl); (case hw => rfl); (case ho => rfl); (case hs => rfl))
        | (refine KW.cond rfl ?_ ?_ <;> (intro hc; try simp only [Bool.or_eq_false_iff, Bool.or_eq_true, Bool.and_eq_true, Bool.and_eq_false_iff, Bool.not_eq_true', Bool.not_eq_false', Bool.not_eq_true, Bool.not_eq_false, decide_eq_true_eq, decide_eq_false_iff_not, Bool.not_not, beq_iff_eq, bne_iff_ne, Bool.beq_eq_decide_eq, gRight, smp, btw] at hc))
        | fail)
      · ((first | apply At.done_ret | apply At.done_normal); (focus (repeat' (first | exact ResVs.nil' | apply ResVs.cons' | exact ResV.tmp' rfl | (apply ResV.cell1 rfl ?hm rfl rfl ?hc; (case hm => repeat (first | exact List.Mem.head _ | apply List.Mem.tail _ | apply List.mem_append_right _)); (case hc => rfl)) | (apply ResV.cellN rfl ?hm rfl rfl rfl ?hc; (case hm => repeat (first | exact List.Mem.head _ | apply List.Mem.tail _ | apply List.mem_append_right _)); (case hc => rfl))))); dsimp only [resVal])
        have hr : gRight x y bw bh = true := by simp only [gRight, smp, btw, Bool.and_eq_true, decide_eq_true_eq]; exact hc
        rw [hr, if_pos rfl] at hlen
        have e1 : ((boxI x y bw bh).length : Int) = bw * bh := by
          rw [hlen, Int.natCast_mul, Int.toNat_of_nonneg (by omega), Int.toNat_of_nonneg (by omega), Int.mul_comm]
        simp [e1, hall]
      · ((first | apply At.done_ret | apply At.done_normal); (focus (repeat' (first | exact ResVs.nil' | apply ResVs.cons' | exact ResV.tmp' rfl | (apply ResV.cell1 rfl ?hm rfl rfl ?hc; (case hm => repeat (first | exact List.Mem.head _ | apply List.Mem.tail _ | apply List.mem_append_right _)); (case hc => rfl)) | (apply ResV.cellN rfl ?hm rfl rfl rfl ?hc; (case hm => repeat (first | exact List.Mem.head _ | apply List.Mem.tail _ | apply List.mem_append_right _)); (case hc => rfl))))); dsimp only [resVal])
        have hr : gRight x y bw bh = false := by simp only [gRight, smp, btw, Bool.and_eq_false_iff, decide_eq_false_iff_not]; exact hc
        rw [hr, if_neg (by simp)] at hlen
        simp [hlen, hall]
        rw [← hall, hlen]
    · rintro e σ' he h
      exact h.elim

theorem GeomBox_c (β : Nat → Option Obj) (vs : List Value) (hrd : RdVs Try.prog β [23, 47, 25] vs) : Go.K.PureB Try.prog 8 vs.toArray β (.bool true) := by
  obtain ⟨va0, vr0, rfl, ha0, hrd⟩ := hrd.cons
  obtain ⟨va1, vr1, rfl, ha1, hrd⟩ := hrd.cons
  obtain ⟨va2, vr2, rfl, ha2, hrd⟩ := hrd.cons
  obtain rfl := hrd.nil
  obtain ⟨vc0, rfl, hq0⟩ := rdV_agg (k := 8) (ts := [3, 3]) ha0 (by kernel_rfl) (by kernel_rfl)
  obtain ⟨vl0_0, vm0_0, rfl, hl0_0, hq0⟩ := hq0.cons
  obtain ⟨vl0_1, vm0_1, rfl, hl0_1, hq0⟩ := hq0.cons
  obtain rfl := hq0.nil
  obtain ⟨w, rfl, hb_w⟩ := rd_i64 Try.underlying3 hl0_0
  obtain ⟨h, rfl, hb_h⟩ := rd_i64 Try.underlying3 hl0_1
  obtain ⟨vc1, rfl, hq1⟩ := rdV_agg (k := 8) (ts := [3, 3, 3, 3]) ha1 (by kernel_rfl) (by kernel_rfl)
  obtain ⟨vl1_0, vm1_0, rfl, hl1_0, hq1⟩ := hq1.cons
  obtain ⟨vl1_1, vm1_1, rfl, hl1_1, hq1⟩ := hq1.cons
  obtain ⟨vl1_2, vm1_2, rfl, hl1_2, hq1⟩ := hq1.cons
  obtain ⟨vl1_3, vm1_3, rfl, hl1_3, hq1⟩ := hq1.cons
  obtain rfl := hq1.nil
  obtain ⟨x, rfl, hb_x⟩ := rd_i64 Try.underlying3 hl1_0
  obtain ⟨y, rfl, hb_y⟩ := rd_i64 Try.underlying3 hl1_1
  obtain ⟨bw, rfl, hb_bw⟩ := rd_i64 Try.underlying3 hl1_2
  obtain ⟨bh, rfl, hb_bh⟩ := rd_i64 Try.underlying3 hl1_3
  obtain ⟨vc2, rfl, hq2⟩ := rdV_agg (k := 8) (ts := [3, 3]) ha2 (by kernel_rfl) (by kernel_rfl)
  obtain ⟨vl2_0, vm2_0, rfl, hl2_0, hq2⟩ := hq2.cons
  obtain ⟨vl2_1, vm2_1, rfl, hl2_1, hq2⟩ := hq2.cons
  obtain rfl := hq2.nil
  obtain ⟨u, rfl, hb_u⟩ := rd_i64 Try.underlying3 hl2_0
  obtain ⟨v, rfl, hb_v⟩ := rd_i64 Try.underlying3 hl2_1
  exact (GeomBox_p w h x y bw bh u v).r _
set_option maxRecDepth 100000 in
theorem GeomBox_lifted (os : Os) (started : os.Started) (H : Type) (enc : TypeId × Value → H) :
    ReturnsInHanded {} Try.checked os 8 .any (Rows.geomBoxSpec.pre6 enc Try.prog Try.f8 Rows.geomBoxRow.domain false) (Rows.geomBoxSpec.post enc Try.prog Try.f8 false true false false) :=
  law_lift (C := Try.checked) Try.own started (by kernel_rfl) Try.func8
    (ChangeSpec.witness6 (enc := enc) (C := Try.checked) false ⟨#[], #[.agg #[.int .i64 0, .int .i64 0], .agg #[.int .i64 0, .int .i64 0, .int .i64 0, .int .i64 0], .agg #[.int .i64 0, .int .i64 0]], []⟩ 8 (by kernel_rfl) (by kernel_rfl) (by kernel_rfl) (by kernel_rfl))
    Try.laidOut rfl (by kernel_rfl) (by kernel_rfl) rfl Try.underlying4
    (fun ds h => by
      have h' : ds.length = 3 := h
      match ds, h' with
      | [_, _, _], _ => rfl)
    (fun β vs h => GeomBox_c β vs h)

theorem GeomBox_holds : Rows.GeomBoxSaid :=
  OpenClaim.holds_of_wide 8 Try.f8 rfl rfl rfl rfl rfl rfl rfl ⟨rfl, rfl, rfl, rfl, rfl⟩ rfl rfl rfl rfl rfl (by kernel_rfl) Try.func8 (by kernel_rfl)
    (of_decide_eq_true (by kernel_rfl)) (by unfold Func.isWrapper; first | (rw [if_pos (by decide +kernel)]; kernel_rfl) | (rw [if_neg (by decide +kernel)]; exact ⟨rfl, rfl⟩))
    (fun os started H enc _ => GeomBox_lifted os started H enc)
end Go.Proofs.Ytfcnkfccjlbnhaa
