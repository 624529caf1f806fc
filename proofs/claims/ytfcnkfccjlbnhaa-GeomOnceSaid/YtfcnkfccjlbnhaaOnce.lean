/- GeomOnce: cells and numbers are one to one. -/
import Derived.Test.YtfcnkfccjlbnhaaG4
namespace Go.Proofs.Ytfcnkfccjlbnhaa
open Go.K Go.ChangeShapes Go.WideShapes Go.ChangeAt Go.RowKit

theorem idx_at {w h x y : Int} (hin : gIdxE w h x y = 0) : gAtE w h (gIdx w h x y) = 0 ∧ gAtX w h (gIdx w h x y) = x ∧ gAtY w h (gIdx w h x y) = y ∧ gIn w h x y = true := by
  have h1 : gIn w h x y = true := by
    unfold gIdxE at hin; split at hin
    · assumption
    · omega
  have h2 := h1
  simp only [gIn, gMay, btw, Bool.and_eq_true, decide_eq_true_eq] at h2
  obtain ⟨⟨⟨⟨hw1, hw2⟩, hh1, hh2⟩, hx1, hx2⟩, hy1, hy2⟩ := h2
  have e1 : gIdx w h x y = y * w + x := by simp [gIdx, h1]
  have e2 : y * w + x ≤ w * h - 1 := by
    have : y * w ≤ (h - 1) * w := Int.mul_le_mul_of_nonneg_right hy2 (by omega)
    rw [Int.sub_mul, Int.mul_comm h w] at this
    omega
  have e3 : 0 ≤ y * w := Int.mul_nonneg hy1 (by omega)
  have e4 : gAtOk w h (y * w + x) = true := by
    simp only [gAtOk, gMay, btw, Bool.and_eq_true, decide_eq_true_eq]; omega
  have e5 : (y * w + x) % w = x := by rw [Int.add_comm, Int.add_mul_emod_self_right]; exact Int.emod_eq_of_lt hx1 (by omega)
  have e6 : (y * w + x) / w = y := by rw [Int.add_comm, Int.add_mul_ediv_right _ _ (by omega), Int.ediv_eq_zero_of_lt hx1 (by omega)]; omega
  refine ⟨?_, ?_, ?_, h1⟩
  · rw [e1]; simp [gAtE, e4]
  · rw [e1]; simp [gAtX, e4, e5]
  · rw [e1]; simp [gAtY, e4, e6]

theorem at_idx {w h i : Int} (hok : gAtE w h i = 0) : gIdxE w h (gAtX w h i) (gAtY w h i) = 0 ∧ gIdx w h (gAtX w h i) (gAtY w h i) = i ∧ gIn w h (gAtX w h i) (gAtY w h i) = true := by
  have h1 : gAtOk w h i = true := by
    unfold gAtE at hok; split at hok
    · assumption
    · omega
  have h2 := h1
  simp only [gAtOk, gMay, btw, Bool.and_eq_true, decide_eq_true_eq] at h2
  obtain ⟨⟨⟨hw1, hw2⟩, hh1, hh2⟩, hi1, hi2⟩ := h2
  have e1 : gAtX w h i = i % w := by simp [gAtX, h1]
  have e2 : gAtY w h i = i / w := by simp [gAtY, h1]
  have e3 := Int.emod_nonneg i (show w ≠ 0 by omega)
  have e4 := Int.emod_lt_of_pos i (show 0 < w by omega)
  have e5 := Int.ediv_nonneg hi1 (show 0 ≤ w by omega)
  have e6 : i / w < h := Int.ediv_lt_of_lt_mul (by omega) (by rw [Int.mul_comm h w]; omega)
  have e7 : gIn w h (gAtX w h i) (gAtY w h i) = true := by
    rw [e1, e2]
    simp only [gIn, gMay, btw, Bool.and_eq_true, decide_eq_true_eq]; omega
  refine ⟨by simp [gIdxE, e7], ?_, e7⟩
  rw [gIdx, if_pos e7, e1, e2, Int.mul_comm]
  exact Int.mul_ediv_add_emod i w

theorem idx_lt {w h x y u v : Int} (h1 : gIdxE w h x y = 0) (h2 : gIdxE w h u v = 0) (hy : y < v) : gIdx w h x y < gIdx w h u v := by
  have a1 := (idx_at h1).2.2.2
  have a2 := (idx_at h2).2.2.2
  have b1 : gIdx w h x y = y * w + x := by simp [gIdx, a1]
  have b2 : gIdx w h u v = v * w + u := by simp [gIdx, a2]
  simp only [gIn, gMay, btw, Bool.and_eq_true, decide_eq_true_eq] at a1 a2
  rw [b1, b2]
  have : (y + 1) * w ≤ v * w := Int.mul_le_mul_of_nonneg_right (by omega) (by omega)
  rw [Int.add_mul] at this
  omega
theorem idx_eq {w h x y u v : Int} (h1 : gIdxE w h x y = 0) (h2 : gIdxE w h u v = 0) : decide (gIdx w h x y = gIdx w h u v) = (decide (x = u) && decide (y = v)) := by
  have a1 := idx_at h1
  have a2 := idx_at h2
  by_cases e : gIdx w h x y = gIdx w h u v
  · have e1 : x = u := by rw [← a1.2.1, ← a2.2.1, e]
    have e2 : y = v := by rw [← a1.2.2.1, ← a2.2.2.1, e]
    simp [e1, e2]
  · have : ¬ (x = u ∧ y = v) := by rintro ⟨rfl, rfl⟩; exact e rfl
    simp [e]
    grind
theorem at_no {w h i : Int} (hok : gAtE w h i ≠ 0) : gMay w h = false ∨ i < 0 ∨ w * h ≤ i := by
  have h1 : gAtOk w h i = false := by
    unfold gAtE at hok
    cases hh : gAtOk w h i with
    | true => simp [hh] at hok
    | false => rfl
  simp only [gAtOk, btw] at h1
  grind

set_option maxHeartbeats 2000000 in
theorem GeomOnce_p (w h x y u v i : Int) : Go.K.Pure Try.prog 5 #[.agg #[.int .i64 w, .int .i64 h], .agg #[.int .i64 x, .int .i64 y, .int .i64 u, .int .i64 v], .int .i64 i] (.bool true) := by
  refine Tr.pure (Tr.of_body Try.tt (args := [.agg #[.int .i64 w, .int .i64 h], .agg #[.int .i64 x, .int .i64 y, .int .i64 u, .int .i64 v], .int .i64 i]) (fr := [(0, true, .agg #[.int .i64 w, .int .i64 h]), (1, true, .agg #[.int .i64 x, .int .i64 y, .int .i64 u, .int .i64 v]), (2, true, .int .i64 i)]) Try.func5 rfl (by decide) rfl Try.ntmps5 rfl rfl ?_)
  intro E _
  have hm := fun a b => mulb (A := 256) (B := 256) (a := w) (b := h) a b
  have p1 := @idx_at w h x y
  have p2 := @idx_eq w h x y u v
  have p3 := @idx_lt w h x y u v
  have p4 := @at_idx w h i
  have p5 := @at_no w h i
  repeat' (first
    | refine KW.seq ?_
    | refine KW.region ?_
    | refine KO.nil ?_
    | refine At.then_normal ?_
    | refine KW.skip ?_
    | refine KW.ret ?_
    | refine At.then_ret ?_
    | refine KW.block ?_
    | refine KW.exit ?_
    | refine At.block_normal ?_
    | refine At.block_ret ?_
    | refine At.loop_ret ?_
    | refine At.then_exit ?_
    | refine At.block_here rfl ?_
    | refine At.block_there rfl ?_
    | refine At.loop_exit ?_
    | refine KW.cond_true rfl ?_
    | refine KW.cond_false rfl ?_
    | refine KW.draw 0 (by decide +kernel) ?_
    | refine KW.drawU rfl (by decide +kernel) ?_
    | refine KD.zero ?_
    | refine KD.skip rfl rfl rfl ?_
    | refine KO.skip rfl rfl rfl ?_
    | refine KO.skip0 rfl rfl ?_
    | ((first | apply KO.val (g := true) rfl rfl rfl | apply KD.val (g := true) rfl rfl rfl); (((first | ((first | apply qt_add rfl rfl rfl ?hi ?om | apply qt_sub rfl rfl rfl ?hi ?om | apply qt_mul rfl rfl rfl ?hi ?om | apply qt_remN rfl rfl rfl ?hi ?om | apply qt_quoN rfl rfl rfl ?hi ?om); (case om => (intro _; omega))) | apply qt_ev rfl ?hi | (apply qt_load1 rfl rfl ?hi rfl rfl ?hm ?hc; (case hm => repeat (first | exact List.Mem.head _ | apply List.Mem.tail _)); (case hc => rfl)) | (apply qt_loadN rfl rfl ?hi rfl rfl rfl ?hm ?hc; (case hm => repeat (first | exact List.Mem.head _ | apply List.Mem.tail _)); (case hc => rfl)) | ((first | apply qt_indexAddr_arr rfl rfl rfl ?hi rfl rfl ?om | apply qt_indexAddr_slice rfl rfl rfl ?hi rfl rfl ?om); (case om => (intro _; omega))) | apply qt_call rfl rfl ?hi (fun hg => Index_p _ _ _ _) | apply qt_call rfl rfl ?hi (fun hg => At_p _ _ _) | apply qt_call rfl rfl ?hi (fun hg => In_p _ _ _ _) | apply qt_call rfl rfl ?hi (fun hg => May_p _ _) | apply qt_call rfl rfl ?hi (fun hg => awake_p) | apply qt_pick_true rfl rfl rfl ?hi | apply qt_pick_false rfl rfl rfl ?hi | ((first | apply qt_pick_and rfl rfl rfl ?hi ?pj | apply qt_pick_or rfl rfl rfl ?hi ?pj); (case pj => (intro h h2; first | exact h2 | (simp [h2]; done) | (simp_all; done)))) | apply qt_build rfl rfl ?hi rfl | apply qt_eqs rfl rfl rfl ?hi rfl (Or.inl rfl) | apply qt_nes rfl rfl rfl ?hi rfl (Or.inl rfl) | ((first | apply qt_rem rfl rfl rfl ?hi ?om | apply qt_quo rfl rfl rfl ?hi ?om | apply qt_shr rfl rfl rfl ?hi ?om | apply qt_shl rfl rfl rfl ?hi ?om); (case om => (intro _; omega)))); (case hi => exact fun _ => rfl))))
    | (refine KO.box rfl rfl rfl rfl rfl rfl ?_; intro _ _)
    | (refine KO.alloc rfl rfl rfl rfl rfl rfl ?_; intro _ _)
    | (refine KO.buildSlice rfl rfl rfl rfl rfl rfl rfl rfl rfl rfl rfl rfl rfl rfl ?_; intro _ _)
    | ((first | apply KO.store (i := 0) rfl rfl rfl rfl rfl rfl rfl rfl ?hl rfl ?hw ?ho ?hs | apply KO.store (i := 1) rfl rfl rfl rfl rfl rfl rfl rfl ?hl rfl ?hw ?ho ?hs | apply KO.store (i := 2) rfl rfl rfl rfl rfl rfl rfl rfl ?hl rfl ?hw ?ho ?hs | apply KO.store (i := 3) rfl rfl rfl rfl rfl rfl rfl rfl ?hl rfl ?hw ?ho ?hs | apply KO.store (i := 4) rfl rfl rfl rfl rfl rfl rfl rfl ?hl rfl ?hw ?ho ?hs | apply KO.store (i := 5) rfl rfl rfl rfl rfl rfl rfl rfl ?hl rfl ?hw ?ho ?hs | apply KO.store (i := 6) rfl rfl rfl rfl rfl rfl rfl rfl ?hl rfl ?hw ?ho ?hs | apply KO.store (i := 7) rfl rfl rfl rfl rfl rfl rfl rfl ?hl rfl ?hw ?ho ?hs); (case hl => rfl); (case hw => rfl); (case ho => rfl); (case hs => rfl))
    | ((first | apply KO.val rfl rfl rfl | apply KO.valIn rfl rfl rfl | apply KD.val rfl rfl rfl | apply KD.valIn rfl rfl rfl); (((first | ((first | apply qt_add rfl rfl rfl ?hi ?om | apply qt_sub rfl rfl rfl ?hi ?om | apply qt_mul rfl rfl rfl ?hi ?om | apply qt_remN rfl rfl rfl ?hi ?om | apply qt_quoN rfl rfl rfl ?hi ?om); (case om => (intro hg; first | omega | (simp only [Bool.or_eq_false_iff, Bool.or_eq_true, Bool.and_eq_true, Bool.and_eq_false_iff, Bool.not_eq_true', Bool.not_eq_false', Bool.not_eq_true, Bool.not_eq_false, decide_eq_true_eq, decide_eq_false_iff_not, Bool.not_not, beq_iff_eq, bne_iff_ne, Bool.beq_eq_decide_eq, gMay, btw] at hg; omega)))) | apply qt_ev rfl ?hi | (apply qt_load1 rfl rfl ?hi rfl rfl ?hm ?hc; (case hm => repeat (first | exact List.Mem.head _ | apply List.Mem.tail _)); (case hc => rfl)) | (apply qt_loadN rfl rfl ?hi rfl rfl rfl ?hm ?hc; (case hm => repeat (first | exact List.Mem.head _ | apply List.Mem.tail _)); (case hc => rfl)) | ((first | apply qt_indexAddr_arr rfl rfl rfl ?hi rfl rfl ?om | apply qt_indexAddr_slice rfl rfl rfl ?hi rfl rfl ?om); (case om => (intro hg; first | omega | (simp only [Bool.or_eq_false_iff, Bool.or_eq_true, Bool.and_eq_true, Bool.and_eq_false_iff, Bool.not_eq_true', Bool.not_eq_false', Bool.not_eq_true, Bool.not_eq_false, decide_eq_true_eq, decide_eq_false_iff_not, Bool.not_not, beq_iff_eq, bne_iff_ne, Bool.beq_eq_decide_eq, gMay, btw] at hg; omega)))) | apply qt_call rfl rfl ?hi (fun hg => Index_p _ _ _ _) | apply qt_call rfl rfl ?hi (fun hg => At_p _ _ _) | apply qt_call rfl rfl ?hi (fun hg => In_p _ _ _ _) | apply qt_call rfl rfl ?hi (fun hg => May_p _ _) | apply qt_call rfl rfl ?hi (fun hg => awake_p) | apply qt_pick_true rfl rfl rfl ?hi | apply qt_pick_false rfl rfl rfl ?hi | ((first | apply qt_pick_and rfl rfl rfl ?hi ?pj | apply qt_pick_or rfl rfl rfl ?hi ?pj); (case pj => (intro h h2; first | exact h2 | (simp [h2]; done) | (simp_all; done)))) | apply qt_build rfl rfl ?hi rfl | apply qt_eqs rfl rfl rfl ?hi rfl (Or.inl rfl) | apply qt_nes rfl rfl rfl ?hi rfl (Or.inl rfl) | ((first | apply qt_rem rfl rfl rfl ?hi ?om | apply qt_quo rfl rfl rfl ?hi ?om | apply qt_shr rfl rfl rfl ?hi ?om | apply qt_shl rfl rfl rfl ?hi ?om); (case om => (intro hg; first | omega | (simp only [Bool.or_eq_false_iff, Bool.or_eq_true, Bool.and_eq_true, Bool.and_eq_false_iff, Bool.not_eq_true', Bool.not_eq_false', Bool.not_eq_true, Bool.not_eq_false, decide_eq_true_eq, decide_eq_false_iff_not, Bool.not_not, beq_iff_eq, bne_iff_ne, Bool.beq_eq_decide_eq, gMay, btw] at hg; omega))))); (case hi => (intro h; first | rfl | exact h | (simp only [List.all_cons, List.all_nil, id_eq, h, Bool.and_self]; done) | (simp [h]; done) | (simp_all; done))))))
    | (refine KW.cond rfl ?_ ?_ <;> (intro hc; try simp only [Bool.or_eq_false_iff, Bool.or_eq_true, Bool.and_eq_true, Bool.and_eq_false_iff, Bool.not_eq_true', Bool.not_eq_false', Bool.not_eq_true, Bool.not_eq_false, decide_eq_true_eq, decide_eq_false_iff_not, Bool.not_not, beq_iff_eq, bne_iff_ne, Bool.beq_eq_decide_eq, gMay, btw] at hc)))
  all_goals first
    | (exfalso; clear hm; grind)
    | skip
  all_goals ((first | apply At.done_ret | apply At.done_normal); (focus (repeat' (first | exact ResVs.nil' | apply ResVs.cons' | exact ResV.tmp' rfl | (apply ResV.cell1 rfl ?hm rfl rfl ?hc; (case hm => repeat (first | exact List.Mem.head _ | apply List.Mem.tail _)); (case hc => rfl)) | (apply ResV.cellN rfl ?hm rfl rfl rfl ?hc; (case hm => repeat (first | exact List.Mem.head _ | apply List.Mem.tail _)); (case hc => rfl))))); dsimp only [resVal])
  all_goals first
    | (obtain ⟨a1, a2, a3⟩ := p4 ‹_›; simp [a1, a2, a3]; done)
    | (rcases p5 ‹_› with h1 | h1 | h1 <;> simp [h1]; done)

set_option maxRecDepth 100000 in
theorem GeomOnce_lifted (os : Os) (started : os.Started) (H : Type) (enc : TypeId × Value → H) :
    ReturnsInHanded {} Try.checked os 5 .any (Rows.geomOnceSpec.pre6 enc Try.prog Try.f5 Rows.geomOnceRow.domain false) (Rows.geomOnceSpec.post enc Try.prog Try.f5 false true false false) := by
  refine returnsInHanded_of_change (C := Try.checked) Try.own started (by kernel_rfl) Try.func5
    (ChangeSpec.witness6 (enc := enc) (C := Try.checked) false ⟨#[], #[.agg #[.int .i64 0, .int .i64 0], .agg #[.int .i64 0, .int .i64 0, .int .i64 0, .int .i64 0], .int .i64 0], []⟩ 8 (by kernel_rfl) (by kernel_rfl) (by kernel_rfl) (by kernel_rfl)) ?_
  intro W base args ds gs before hval0 hW hcnd _
  have hval : ∀ (j : Nat) t v, Try.f5.params[j]? = some t → args[j]? = some v → Value.okWide Try.prog W .any base t v := hval0
  have hW' := hW
  obtain ⟨p, q, hA0, hV, rfl, hfz, hnd⟩ := hW
  have hA : DataW.TrodAll enc Try.prog W 0 (fun _ => true) true Try.f5.params.toList args.toList ds p := hA0
  rw [Try.params5] at hA hval
  obtain ⟨v0, v1, v2, d0, d1, d2, p0, p1, p2, rfl, rfl, rfl, h0, h1, h2⟩ := trodAll_three hA
  obtain ⟨rfl, rfl⟩ := trodVars_none hV
  obtain ⟨w, h, rfl, hbw, hbh⟩ := open_ints2 (ts := [3, 3]) (by kernel_rfl) (by kernel_rfl) (by kernel_rfl) (by kernel_rfl) (hval 0 23 v0 rfl rfl)
  obtain ⟨x, y, u, v, rfl, hbx, hby, hbu, hbv⟩ := open_ints4 (ts := [3, 3, 3, 3]) (by kernel_rfl) (by kernel_rfl) (by kernel_rfl) (by kernel_rfl) (hval 1 41 v1 rfl rfl)
  obtain ⟨i, rfl, hbi⟩ := open_i64 Try.underlying3 (hval 2 3 v2 rfl rfl)
  clear hA0 hval0
  refine ((GeomOnce_p w h x y u v i).run W).mono fun e W' ⟨he, hb⟩ => ?_
  subst he
  exact ⟨_, rfl, law_frame Try.laidOut hW' rfl (by kernel_rfl) rfl Try.underlying4 rfl hb⟩

theorem GeomOnce_holds : Rows.GeomOnceSaid :=
  OpenClaim.holds_of_wide 5 Try.f5 rfl rfl rfl rfl rfl rfl rfl ⟨rfl, rfl, rfl, rfl, rfl⟩ rfl rfl rfl rfl rfl (by kernel_rfl) Try.func5 (by kernel_rfl)
    (of_decide_eq_true (by kernel_rfl)) (by unfold Func.isWrapper; first | (rw [if_pos (by decide +kernel)]; kernel_rfl) | (rw [if_neg (by decide +kernel)]; exact ⟨rfl, rfl⟩))
    (fun os started H enc _ => GeomOnce_lifted os started H enc)
end Go.Proofs.Ytfcnkfccjlbnhaa
