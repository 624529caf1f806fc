/- Geometry: boxes on a map, cells in a box; the document's. -/
import Derived.Test.YtfcnkfccjlbnhaaG8
import Derived.Test.YtfcnkfccjlbnhaaG3
namespace Go.Proofs.Ytfcnkfccjlbnhaa
open Go.K

def gHas (x y bw bh u v : Int) : Bool := (gRight x y bw bh && btw u x (x + bw - 1)) && btw v y (y + bh - 1)
theorem Has_p (x y bw bh u v : Int) : Go.K.Pure Try.prog 28 #[.agg #[.int .i64 x, .int .i64 y, .int .i64 bw, .int .i64 bh], .agg #[.int .i64 u, .int .i64 v]] (.bool (gHas x y bw bh u v)) := by
  refine Tr.pure (Tr.of_body Try.tt (args := [.agg #[.int .i64 x, .int .i64 y, .int .i64 bw, .int .i64 bh], .agg #[.int .i64 u, .int .i64 v]]) (fr := [(0, true, .agg #[.int .i64 x, .int .i64 y, .int .i64 bw, .int .i64 bh]), (1, true, .agg #[.int .i64 u, .int .i64 v])]) Try.func28 rfl (by decide) rfl Try.ntmps28 rfl rfl ?_)
  intro E _
  repeat' (first
    | refine KW.seq ?_
    | refine KW.region ?_
    | refine KO.nil ?_
    | refine At.then_normal ?_
    | refine KW.skip ?_
    | refine KW.ret ?_
    | refine At.then_ret ?_
    | refine KW.block ?_
    | refine KW.exit ?_
    | refine At.block_normal ?_
    | refine At.block_ret ?_
    | refine At.loop_ret ?_
    | refine At.then_exit ?_
    | refine At.block_here rfl ?_
    | refine At.block_there rfl ?_
    | refine At.loop_exit ?_
    | refine At.cut_ret ?_
    | refine At.cut_exit ?_
    | (refine At.cut_same ?_; repeat' (first | exact FLe.nil _ | refine FLe.cons rfl rfl ?_))
    | refine KW.cond_t rfl (by first | with_reducible rfl | decide) ?_
    | refine KW.cond_f rfl (by first | with_reducible rfl | decide) ?_
    | refine KW.draw 0 (by decide +kernel) ?_
    | refine KW.drawU rfl (by decide +kernel) ?_
    | refine KD.zero ?_
    | refine KD.skip' rfl (by first | with_reducible rfl | decide) rfl rfl ?_
    | refine KO.skip' rfl (by first | with_reducible rfl | decide) rfl rfl ?_
    | refine KO.skip0' rfl (by first | with_reducible rfl | decide) rfl ?_
    | ((first | apply KO.val rfl rfl rfl | apply KO.valIn rfl rfl rfl | apply KD.val rfl rfl rfl | apply KD.valIn rfl rfl rfl); (((first | ((first | apply qt_add rfl rfl rfl ?hi ?om | apply qt_sub rfl rfl rfl ?hi ?om | apply qt_mul rfl rfl rfl ?hi ?om | apply qt_remN rfl rfl rfl ?hi ?om | apply qt_quoN rfl rfl rfl ?hi ?om); (case om => (intro hg; first | omega | (simp only [Bool.or_eq_false_iff, Bool.or_eq_true, Bool.and_eq_true, Bool.and_eq_false_iff, Bool.not_eq_true', Bool.not_eq_false', Bool.not_eq_true, Bool.not_eq_false, decide_eq_true_eq, decide_eq_false_iff_not, Bool.not_not, beq_iff_eq, bne_iff_ne, Bool.beq_eq_decide_eq, gRight, smp, btw] at hg; omega)))) | apply qt_ev rfl ?hi | (apply qt_load1 rfl rfl ?hi rfl rfl ?hm ?hc; (case hm => repeat (first | exact List.Mem.head _ | apply List.Mem.tail _ | apply List.mem_append_right _)); (case hc => rfl)) | (apply qt_loadN rfl rfl ?hi rfl rfl rfl ?hm ?hc; (case hm => repeat (first | exact List.Mem.head _ | apply List.Mem.tail _ | apply List.mem_append_right _)); (case hc => rfl)) | ((first | apply qt_indexAddr_arr rfl rfl rfl ?hi rfl rfl ?om | apply qt_indexAddr_slice rfl rfl rfl ?hi rfl rfl ?om); (case om => (intro hg; first | omega | (simp only [Bool.or_eq_false_iff, Bool.or_eq_true, Bool.and_eq_true, Bool.and_eq_false_iff, Bool.not_eq_true', Bool.not_eq_false', Bool.not_eq_true, Bool.not_eq_false, decide_eq_true_eq, decide_eq_false_iff_not, Bool.not_not, beq_iff_eq, bne_iff_ne, Bool.beq_eq_decide_eq, gRight, smp, btw] at hg; omega)))) | apply qt_call rfl rfl ?hi (fun hg => right_p _ _ _ _) | apply qt_call rfl rfl ?hi (fun hg => between_p _ _ _) | apply qt_pick_t rfl rfl (by first | with_reducible rfl | decide) rfl ?hi | apply qt_pick_f rfl rfl (by first | with_reducible rfl | decide) rfl ?hi | ((first | apply qt_pick_and rfl rfl rfl ?hi ?pj | apply qt_pick_or rfl rfl rfl ?hi ?pj); (case pj => (intro h h2; first | with_reducible exact h2 | with_reducible rfl | (simp [h2]; done) | (simp_all; done)))) | apply qt_build rfl rfl ?hi rfl | apply qt_eqs rfl rfl rfl ?hi rfl (Or.inl rfl) | apply qt_nes rfl rfl rfl ?hi rfl (Or.inl rfl) | ((first | apply qt_rem rfl rfl rfl ?hi ?om | apply qt_quo rfl rfl rfl ?hi ?om | apply qt_shr rfl rfl rfl ?hi ?om | apply qt_shl rfl rfl rfl ?hi ?om); (case om => (intro hg; first | omega | (simp only [Bool.or_eq_false_iff, Bool.or_eq_true, Bool.and_eq_true, Bool.and_eq_false_iff, Bool.not_eq_true', Bool.not_eq_false', Bool.not_eq_true, Bool.not_eq_false, decide_eq_true_eq, decide_eq_false_iff_not, Bool.not_not, beq_iff_eq, bne_iff_ne, Bool.beq_eq_decide_eq, gRight, smp, btw] at hg; omega))))); (case hi => (intro h; (repeat' (first | with_reducible exact alln | with_reducible refine allc ?_ ?_ | with_reducible refine andi ?_ ?_)); all_goals (first | with_reducible rfl | with_reducible exact h | with_reducible exact andl h | with_reducible exact andr h | with_reducible exact andl (andl h) | (simp only [h, Bool.and_self]; done) | (simp [h]; done) | (simp_all; done)))))))
    | (refine KO.box rfl rfl rfl rfl rfl rfl ?_; intro _ _)
    | (refine KO.alloc rfl rfl rfl rfl rfl rfl ?_; intro _ _)
    | (refine KO.buildSlice rfl rfl rfl rfl rfl rfl rfl rfl rfl rfl rfl rfl rfl rfl ?_; intro _ _)
    | ((first | apply KO.store (i := 0) rfl rfl rfl rfl rfl rfl rfl rfl ?hl rfl ?hw ?ho ?hs | apply KO.store (i := 1) rfl rfl rfl rfl rfl rfl rfl rfl ?hl rfl ?hw ?ho ?hs | apply KO.store (i := 2) rfl rfl rfl rfl rfl rfl rfl rfl ?hl rfl ?hw ?ho ?hs | apply KO.store (i := 3) rfl rfl rfl rfl rfl rfl rfl rfl ?hl rfl ?hw ?ho ?hs | apply KO.store (i := 4) rfl rfl rfl rfl rfl rfl rfl rfl ?hl rfl ?hw ?ho ?hs | apply KO.store (i := 5) rfl rfl rfl rfl rfl rfl rfl rfl ?hl rfl ?hw ?ho ?hs | apply KO.store (i := 6) rfl rfl rfl rfl rfl rfl rfl rfl ?hl rfl ?hw ?ho ?hs | apply KO.store (i := 7) rfl rfl rfl rfl rfl rfl rfl rfl ?hl rfl ?hw ?ho ?hs); (case hl => rfl); (case hw => rfl); (case ho => rfl); (case hs => rfl))
    | (refine KW.cond rfl ?_ ?_ <;> (intro hc; try simp only [Bool.or_eq_false_iff, Bool.or_eq_true, Bool.and_eq_true, Bool.and_eq_false_iff, Bool.not_eq_true', Bool.not_eq_false', Bool.not_eq_true, Bool.not_eq_false, decide_eq_true_eq, decide_eq_false_iff_not, Bool.not_not, beq_iff_eq, bne_iff_ne, Bool.beq_eq_decide_eq, gRight, smp, btw] at hc))
    | fail)
  ((first | apply At.done_ret | apply At.done_normal); (focus (repeat' (first | exact ResVs.nil' | apply ResVs.cons' | exact ResV.tmp' rfl | (apply ResV.cell1 rfl ?hm rfl rfl ?hc; (case hm => repeat (first | exact List.Mem.head _ | apply List.Mem.tail _ | apply List.mem_append_right _)); (case hc => rfl)) | (apply ResV.cellN rfl ?hm rfl rfl rfl ?hc; (case hm => repeat (first | exact List.Mem.head _ | apply List.Mem.tail _ | apply List.mem_append_right _)); (case hc => rfl))))); dsimp only [resVal])
  rfl
def gFits (w h x y bw bh : Int) : Bool := (((gRight x y bw bh && decide (0 < bw)) && decide (0 < bh)) && gIn w h x y) && gIn w h (x + bw - 1) (y + bh - 1)
theorem Fits_p (w h x y bw bh : Int) : Go.K.Pure Try.prog 26 #[.agg #[.int .i64 w, .int .i64 h], .agg #[.int .i64 x, .int .i64 y, .int .i64 bw, .int .i64 bh]] (.bool (gFits w h x y bw bh)) := by
  refine Tr.pure (Tr.of_body Try.tt (args := [.agg #[.int .i64 w, .int .i64 h], .agg #[.int .i64 x, .int .i64 y, .int .i64 bw, .int .i64 bh]]) (fr := [(0, true, .agg #[.int .i64 w, .int .i64 h]), (1, true, .agg #[.int .i64 x, .int .i64 y, .int .i64 bw, .int .i64 bh])]) Try.func26 rfl (by decide) rfl Try.ntmps26 rfl rfl ?_)
  intro E _
  repeat' (first
    | refine KW.seq ?_
    | refine KW.region ?_
    | refine KO.nil ?_
    | refine At.then_normal ?_
    | refine KW.skip ?_
    | refine KW.ret ?_
    | refine At.then_ret ?_
    | refine KW.block ?_
    | refine KW.exit ?_
    | refine At.block_normal ?_
    | refine At.block_ret ?_
    | refine At.loop_ret ?_
    | refine At.then_exit ?_
    | refine At.block_here rfl ?_
    | refine At.block_there rfl ?_
    | refine At.loop_exit ?_
    | refine At.cut_ret ?_
    | refine At.cut_exit ?_
    | (refine At.cut_same ?_; repeat' (first | exact FLe.nil _ | refine FLe.cons rfl rfl ?_))
    | refine KW.cond_t rfl (by first | with_reducible rfl | decide) ?_
    | refine KW.cond_f rfl (by first | with_reducible rfl | decide) ?_
    | refine KW.draw 0 (by decide +kernel) ?_
    | refine KW.drawU rfl (by decide +kernel) ?_
    | refine KD.zero ?_
    | refine KD.skip' rfl (by first | with_reducible rfl | decide) rfl rfl ?_
    | refine KO.skip' rfl (by first | with_reducible rfl | decide) rfl rfl ?_
    | refine KO.skip0' rfl (by first | with_reducible rfl | decide) rfl ?_
    | ((first | apply KO.val rfl rfl rfl | apply KO.valIn rfl rfl rfl | apply KD.val rfl rfl rfl | apply KD.valIn rfl rfl rfl); (((first | ((first | apply qt_add rfl rfl rfl ?hi ?om | apply qt_sub rfl rfl rfl ?hi ?om | apply qt_mul rfl rfl rfl ?hi ?om | apply qt_remN rfl rfl rfl ?hi ?om | apply qt_quoN rfl rfl rfl ?hi ?om); (case om => (intro hg; first | omega | (simp only [Bool.or_eq_false_iff, Bool.or_eq_true, Bool.and_eq_true, Bool.and_eq_false_iff, Bool.not_eq_true', Bool.not_eq_false', Bool.not_eq_true, Bool.not_eq_false, decide_eq_true_eq, decide_eq_false_iff_not, Bool.not_not, beq_iff_eq, bne_iff_ne, Bool.beq_eq_decide_eq, gRight, smp, btw] at hg; omega)))) | apply qt_ev rfl ?hi | (apply qt_load1 rfl rfl ?hi rfl rfl ?hm ?hc; (case hm => repeat (first | exact List.Mem.head _ | apply List.Mem.tail _ | apply List.mem_append_right _)); (case hc => rfl)) | (apply qt_loadN rfl rfl ?hi rfl rfl rfl ?hm ?hc; (case hm => repeat (first | exact List.Mem.head _ | apply List.Mem.tail _ | apply List.mem_append_right _)); (case hc => rfl)) | ((first | apply qt_indexAddr_arr rfl rfl rfl ?hi rfl rfl ?om | apply qt_indexAddr_slice rfl rfl rfl ?hi rfl rfl ?om); (case om => (intro hg; first | omega | (simp only [Bool.or_eq_false_iff, Bool.or_eq_true, Bool.and_eq_true, Bool.and_eq_false_iff, Bool.not_eq_true', Bool.not_eq_false', Bool.not_eq_true, Bool.not_eq_false, decide_eq_true_eq, decide_eq_false_iff_not, Bool.not_not, beq_iff_eq, bne_iff_ne, Bool.beq_eq_decide_eq, gRight, smp, btw] at hg; omega)))) | apply qt_call rfl rfl ?hi (fun hg => right_p _ _ _ _) | apply qt_call rfl rfl ?hi (fun hg => In_p _ _ _ _) | apply qt_pick_t rfl rfl (by first | with_reducible rfl | decide) rfl ?hi | apply qt_pick_f rfl rfl (by first | with_reducible rfl | decide) rfl ?hi | ((first | apply qt_pick_and rfl rfl rfl ?hi ?pj | apply qt_pick_or rfl rfl rfl ?hi ?pj); (case pj => (intro h h2; first | with_reducible exact h2 | with_reducible rfl | (simp [h2]; done) | (simp_all; done)))) | apply qt_build rfl rfl ?hi rfl | apply qt_eqs rfl rfl rfl ?hi rfl (Or.inl rfl) | apply qt_nes rfl rfl rfl ?hi rfl (Or.inl rfl) | ((first | apply qt_rem rfl rfl rfl ?hi ?om | apply qt_quo rfl rfl rfl ?hi ?om | apply qt_shr rfl rfl rfl ?hi ?om | apply qt_shl rfl rfl rfl ?hi ?om); (case om => (intro hg; first | omega | (simp only [Bool.or_eq_false_iff, Bool.or_eq_true, Bool.and_eq_true, Bool.and_eq_false_iff, Bool.not_eq_true', Bool.not_eq_false', Bool.not_eq_true, Bool.not_eq_false, decide_eq_true_eq, decide_eq_false_iff_not, Bool.not_not, beq_iff_eq, bne_iff_ne, Bool.beq_eq_decide_eq, gRight, smp, btw] at hg; omega))))); (case hi => (intro h; (repeat' (first | with_reducible exact alln | with_reducible refine allc ?_ ?_ | with_reducible refine andi ?_ ?_)); all_goals (first | with_reducible rfl | with_reducible exact h | with_reducible exact andl h | with_reducible exact andr h | with_reducible exact andl (andl h) | (simp only [h, Bool.and_self]; done) | (simp [h]; done) | (simp_all; done)))))))
    | (refine KO.box rfl rfl rfl rfl rfl rfl ?_; intro _ _)
    | (refine KO.alloc rfl rfl rfl rfl rfl rfl ?_; intro _ _)
    | (refine KO.buildSlice rfl rfl rfl rfl rfl rfl rfl rfl rfl rfl rfl rfl rfl rfl ?_; intro _ _)
    | ((first | apply KO.store (i := 0) rfl rfl rfl rfl rfl rfl rfl rfl ?hl rfl ?hw ?ho ?hs | apply KO.store (i := 1) rfl rfl rfl rfl rfl rfl rfl rfl ?hl rfl ?hw ?ho ?hs | apply KO.store (i := 2) rfl rfl rfl rfl rfl rfl rfl rfl ?hl rfl ?hw ?ho ?hs | apply KO.store (i := 3) rfl rfl rfl rfl rfl rfl rfl rfl ?hl rfl ?hw ?ho ?hs | apply KO.store (i := 4) rfl rfl rfl rfl rfl rfl rfl rfl ?hl rfl ?hw ?ho ?hs | apply KO.store (i := 5) rfl rfl rfl rfl rfl rfl rfl rfl ?hl rfl ?hw ?ho ?hs | apply KO.store (i := 6) rfl rfl rfl rfl rfl rfl rfl rfl ?hl rfl ?hw ?ho ?hs | apply KO.store (i := 7) rfl rfl rfl rfl rfl rfl rfl rfl ?hl rfl ?hw ?ho ?hs); (case hl => rfl); (case hw => rfl); (case ho => rfl); (case hs => rfl))
    | (refine KW.cond rfl ?_ ?_ <;> (intro hc; try simp only [Bool.or_eq_false_iff, Bool.or_eq_true, Bool.and_eq_true, Bool.and_eq_false_iff, Bool.not_eq_true', Bool.not_eq_false', Bool.not_eq_true, Bool.not_eq_false, decide_eq_true_eq, decide_eq_false_iff_not, Bool.not_not, beq_iff_eq, bne_iff_ne, Bool.beq_eq_decide_eq, gRight, smp, btw] at hc))
    | fail)
  ((first | apply At.done_ret | apply At.done_normal); (focus (repeat' (first | exact ResVs.nil' | apply ResVs.cons' | exact ResV.tmp' rfl | (apply ResV.cell1 rfl ?hm rfl rfl ?hc; (case hm => repeat (first | exact List.Mem.head _ | apply List.Mem.tail _ | apply List.mem_append_right _)); (case hc => rfl)) | (apply ResV.cellN rfl ?hm rfl rfl rfl ?hc; (case hm => repeat (first | exact List.Mem.head _ | apply List.Mem.tail _ | apply List.mem_append_right _)); (case hc => rfl))))); dsimp only [resVal])
  rfl
theorem rRight_p (x y bw bh : Int) : Go.K.Pure Try.prog 31 #[.agg #[.int .i64 x, .int .i64 y, .int .i64 bw, .int .i64 bh]] (.bool (gRight x y bw bh)) := by
  refine Tr.pure (Tr.of_body Try.tt (args := [.agg #[.int .i64 x, .int .i64 y, .int .i64 bw, .int .i64 bh]]) (fr := [(0, true, .agg #[.int .i64 x, .int .i64 y, .int .i64 bw, .int .i64 bh])]) Try.func31 rfl (by decide) rfl Try.ntmps31 rfl rfl ?_)
  intro E _
  repeat' (first
    | refine KW.seq ?_
    | refine KW.region ?_
    | refine KO.nil ?_
    | refine At.then_normal ?_
    | refine KW.skip ?_
    | refine KW.ret ?_
    | refine At.then_ret ?_
    | refine KW.block ?_
    | refine KW.exit ?_
    | refine At.block_normal ?_
    | refine At.block_ret ?_
    | refine At.loop_ret ?_
    | refine At.then_exit ?_
    | refine At.block_here rfl ?_
    | refine At.block_there rfl ?_
    | refine At.loop_exit ?_
    | refine At.cut_ret ?_
    | refine At.cut_exit ?_
    | (refine At.cut_same ?_; repeat' (first | exact FLe.nil _ | refine FLe.cons rfl rfl ?_))
    | refine KW.cond_t rfl (by first | with_reducible rfl | decide) ?_
    | refine KW.cond_f rfl (by first | with_reducible rfl | decide) ?_
    | refine KW.draw 0 (by decide +kernel) ?_
    | refine KW.drawU rfl (by decide +kernel) ?_
    | refine KD.zero ?_
    | refine KD.skip' rfl (by first | with_reducible rfl | decide) rfl rfl ?_
    | refine KO.skip' rfl (by first | with_reducible rfl | decide) rfl rfl ?_
    | refine KO.skip0' rfl (by first | with_reducible rfl | decide) rfl ?_
    | ((first | apply KO.val rfl rfl rfl | apply KO.valIn rfl rfl rfl | apply KD.val rfl rfl rfl | apply KD.valIn rfl rfl rfl); (((first | ((first | apply qt_add rfl rfl rfl ?hi ?om | apply qt_sub rfl rfl rfl ?hi ?om | apply qt_mul rfl rfl rfl ?hi ?om | apply qt_remN rfl rfl rfl ?hi ?om | apply qt_quoN rfl rfl rfl ?hi ?om); (case om => (intro hg; first | omega | (simp only [Bool.or_eq_false_iff, Bool.or_eq_true, Bool.and_eq_true, Bool.and_eq_false_iff, Bool.not_eq_true', Bool.not_eq_false', Bool.not_eq_true, Bool.not_eq_false, decide_eq_true_eq, decide_eq_false_iff_not, Bool.not_not, beq_iff_eq, bne_iff_ne, Bool.beq_eq_decide_eq] at hg; omega)))) | apply qt_ev rfl ?hi | (apply qt_load1 rfl rfl ?hi rfl rfl ?hm ?hc; (case hm => repeat (first | exact List.Mem.head _ | apply List.Mem.tail _ | apply List.mem_append_right _)); (case hc => rfl)) | (apply qt_loadN rfl rfl ?hi rfl rfl rfl ?hm ?hc; (case hm => repeat (first | exact List.Mem.head _ | apply List.Mem.tail _ | apply List.mem_append_right _)); (case hc => rfl)) | ((first | apply qt_indexAddr_arr rfl rfl rfl ?hi rfl rfl ?om | apply qt_indexAddr_slice rfl rfl rfl ?hi rfl rfl ?om); (case om => (intro hg; first | omega | (simp only [Bool.or_eq_false_iff, Bool.or_eq_true, Bool.and_eq_true, Bool.and_eq_false_iff, Bool.not_eq_true', Bool.not_eq_false', Bool.not_eq_true, Bool.not_eq_false, decide_eq_true_eq, decide_eq_false_iff_not, Bool.not_not, beq_iff_eq, bne_iff_ne, Bool.beq_eq_decide_eq] at hg; omega)))) | apply qt_call rfl rfl ?hi (fun hg => rPlain_p _ _) | apply qt_pick_t rfl rfl (by first | with_reducible rfl | decide) rfl ?hi | apply qt_pick_f rfl rfl (by first | with_reducible rfl | decide) rfl ?hi | ((first | apply qt_pick_and rfl rfl rfl ?hi ?pj | apply qt_pick_or rfl rfl rfl ?hi ?pj); (case pj => (intro h h2; first | with_reducible exact h2 | with_reducible rfl | (simp [h2]; done) | (simp_all; done)))) | apply qt_build rfl rfl ?hi rfl | apply qt_eqs rfl rfl rfl ?hi rfl (Or.inl rfl) | apply qt_nes rfl rfl rfl ?hi rfl (Or.inl rfl) | ((first | apply qt_rem rfl rfl rfl ?hi ?om | apply qt_quo rfl rfl rfl ?hi ?om | apply qt_shr rfl rfl rfl ?hi ?om | apply qt_shl rfl rfl rfl ?hi ?om); (case om => (intro hg; first | omega | (simp only [Bool.or_eq_false_iff, Bool.or_eq_true, Bool.and_eq_true, Bool.and_eq_false_iff, Bool.not_eq_true', Bool.not_eq_false', Bool.not_eq_true, Bool.not_eq_false, decide_eq_true_eq, decide_eq_false_iff_not, Bool.not_not, beq_iff_eq, bne_iff_ne, Bool.beq_eq_decide_eq] at hg; omega))))); (case hi => (intro h; (repeat' (first | with_reducible exact alln | with_reducible refine allc ?_ ?_ | with_reducible refine andi ?_ ?_)); all_goals (first | with_reducible rfl | with_reducible exact h | with_reducible exact andl h | with_reducible exact andr h | with_reducible exact andl (andl h) | (simp only [h, Bool.and_self]; done) | (simp [h]; done) | (simp_all; done)))))))
    | (refine KO.box rfl rfl rfl rfl rfl rfl ?_; intro _ _)
    | (refine KO.alloc rfl rfl rfl rfl rfl rfl ?_; intro _ _)
    | (refine KO.buildSlice rfl rfl rfl rfl rfl rfl rfl rfl rfl rfl rfl rfl rfl rfl ?_; intro _ _)
    | ((first | apply KO.store (i := 0) rfl rfl rfl rfl rfl rfl rfl rfl ?hl rfl ?hw ?ho ?hs | apply KO.store (i := 1) rfl rfl rfl rfl rfl rfl rfl rfl ?hl rfl ?hw ?ho ?hs | apply KO.store (i := 2) rfl rfl rfl rfl rfl rfl rfl rfl ?hl rfl ?hw ?ho ?hs | apply KO.store (i := 3) rfl rfl rfl rfl rfl rfl rfl rfl ?hl rfl ?hw ?ho ?hs | apply KO.store (i := 4) rfl rfl rfl rfl rfl rfl rfl rfl ?hl rfl ?hw ?ho ?hs | apply KO.store (i := 5) rfl rfl rfl rfl rfl rfl rfl rfl ?hl rfl ?hw ?ho ?hs | apply KO.store (i := 6) rfl rfl rfl rfl rfl rfl rfl rfl ?hl rfl ?hw ?ho ?hs | apply KO.store (i := 7) rfl rfl rfl rfl rfl rfl rfl rfl ?hl rfl ?hw ?ho ?hs); (case hl => rfl); (case hw => rfl); (case ho => rfl); (case hs => rfl))
    | (refine KW.cond rfl ?_ ?_ <;> (intro hc; try simp only [Bool.or_eq_false_iff, Bool.or_eq_true, Bool.and_eq_true, Bool.and_eq_false_iff, Bool.not_eq_true', Bool.not_eq_false', Bool.not_eq_true, Bool.not_eq_false, decide_eq_true_eq, decide_eq_false_iff_not, Bool.not_not, beq_iff_eq, bne_iff_ne, Bool.beq_eq_decide_eq] at hc))
    | fail)
  ((first | apply At.done_ret | apply At.done_normal); (focus (repeat' (first | exact ResVs.nil' | apply ResVs.cons' | exact ResV.tmp' rfl | (apply ResV.cell1 rfl ?hm rfl rfl ?hc; (case hm => repeat (first | exact List.Mem.head _ | apply List.Mem.tail _ | apply List.mem_append_right _)); (case hc => rfl)) | (apply ResV.cellN rfl ?hm rfl rfl rfl ?hc; (case hm => repeat (first | exact List.Mem.head _ | apply List.Mem.tail _ | apply List.mem_append_right _)); (case hc => rfl))))); dsimp only [resVal])
  simp only [gRight, btw]; grind
theorem rHas_p (x y bw bh u v : Int) : Go.K.Pure Try.prog 29 #[.agg #[.int .i64 x, .int .i64 y, .int .i64 bw, .int .i64 bh], .agg #[.int .i64 u, .int .i64 v]] (.bool (gHas x y bw bh u v)) := by
  refine Tr.pure (Tr.of_body Try.tt (args := [.agg #[.int .i64 x, .int .i64 y, .int .i64 bw, .int .i64 bh], .agg #[.int .i64 u, .int .i64 v]]) (fr := [(0, true, .agg #[.int .i64 x, .int .i64 y, .int .i64 bw, .int .i64 bh]), (1, true, .agg #[.int .i64 u, .int .i64 v])]) Try.func29 rfl (by decide) rfl Try.ntmps29 rfl rfl ?_)
  intro E _
  repeat' (first
    | refine KW.seq ?_
    | refine KW.region ?_
    | refine KO.nil ?_
    | refine At.then_normal ?_
    | refine KW.skip ?_
    | refine KW.ret ?_
    | refine At.then_ret ?_
    | refine KW.block ?_
    | refine KW.exit ?_
    | refine At.block_normal ?_
    | refine At.block_ret ?_
    | refine At.loop_ret ?_
    | refine At.then_exit ?_
    | refine At.block_here rfl ?_
    | refine At.block_there rfl ?_
    | refine At.loop_exit ?_
    | refine At.cut_ret ?_
    | refine At.cut_exit ?_
    | (refine At.cut_same ?_; repeat' (first | exact FLe.nil _ | refine FLe.cons rfl rfl ?_))
    | refine KW.cond_t rfl (by first | with_reducible rfl | decide) ?_
    | refine KW.cond_f rfl (by first | with_reducible rfl | decide) ?_
    | refine KW.draw 0 (by decide +kernel) ?_
    | refine KW.drawU rfl (by decide +kernel) ?_
    | refine KD.zero ?_
    | refine KD.skip' rfl (by first | with_reducible rfl | decide) rfl rfl ?_
    | refine KO.skip' rfl (by first | with_reducible rfl | decide) rfl rfl ?_
    | refine KO.skip0' rfl (by first | with_reducible rfl | decide) rfl ?_
    | ((first | apply KO.val rfl rfl rfl | apply KO.valIn rfl rfl rfl | apply KD.val rfl rfl rfl | apply KD.valIn rfl rfl rfl); (((first | ((first | apply qt_add rfl rfl rfl ?hi ?om | apply qt_sub rfl rfl rfl ?hi ?om | apply qt_mul rfl rfl rfl ?hi ?om | apply qt_remN rfl rfl rfl ?hi ?om | apply qt_quoN rfl rfl rfl ?hi ?om); (case om => (intro hg; first | omega | (simp only [Bool.or_eq_false_iff, Bool.or_eq_true, Bool.and_eq_true, Bool.and_eq_false_iff, Bool.not_eq_true', Bool.not_eq_false', Bool.not_eq_true, Bool.not_eq_false, decide_eq_true_eq, decide_eq_false_iff_not, Bool.not_not, beq_iff_eq, bne_iff_ne, Bool.beq_eq_decide_eq, gRight, smp, btw] at hg; omega)))) | apply qt_ev rfl ?hi | (apply qt_load1 rfl rfl ?hi rfl rfl ?hm ?hc; (case hm => repeat (first | exact List.Mem.head _ | apply List.Mem.tail _ | apply List.mem_append_right _)); (case hc => rfl)) | (apply qt_loadN rfl rfl ?hi rfl rfl rfl ?hm ?hc; (case hm => repeat (first | exact List.Mem.head _ | apply List.Mem.tail _ | apply List.mem_append_right _)); (case hc => rfl)) | ((first | apply qt_indexAddr_arr rfl rfl rfl ?hi rfl rfl ?om | apply qt_indexAddr_slice rfl rfl rfl ?hi rfl rfl ?om); (case om => (intro hg; first | omega | (simp only [Bool.or_eq_false_iff, Bool.or_eq_true, Bool.and_eq_true, Bool.and_eq_false_iff, Bool.not_eq_true', Bool.not_eq_false', Bool.not_eq_true, Bool.not_eq_false, decide_eq_true_eq, decide_eq_false_iff_not, Bool.not_not, beq_iff_eq, bne_iff_ne, Bool.beq_eq_decide_eq, gRight, smp, btw] at hg; omega)))) | apply qt_call rfl rfl ?hi (fun hg => rRight_p _ _ _ _) | apply qt_pick_t rfl rfl (by first | with_reducible rfl | decide) rfl ?hi | apply qt_pick_f rfl rfl (by first | with_reducible rfl | decide) rfl ?hi | ((first | apply qt_pick_and rfl rfl rfl ?hi ?pj | apply qt_pick_or rfl rfl rfl ?hi ?pj); (case pj => (intro h h2; first | with_reducible exact h2 | with_reducible rfl | (simp [h2]; done) | (simp_all; done)))) | apply qt_build rfl rfl ?hi rfl | apply qt_eqs rfl rfl rfl ?hi rfl (Or.inl rfl) | apply qt_nes rfl rfl rfl ?hi rfl (Or.inl rfl) | ((first | apply qt_rem rfl rfl rfl ?hi ?om | apply qt_quo rfl rfl rfl ?hi ?om | apply qt_shr rfl rfl rfl ?hi ?om | apply qt_shl rfl rfl rfl ?hi ?om); (case om => (intro hg; first | omega | (simp only [Bool.or_eq_false_iff, Bool.or_eq_true, Bool.and_eq_true, Bool.and_eq_false_iff, Bool.not_eq_true', Bool.not_eq_false', Bool.not_eq_true, Bool.not_eq_false, decide_eq_true_eq, decide_eq_false_iff_not, Bool.not_not, beq_iff_eq, bne_iff_ne, Bool.beq_eq_decide_eq, gRight, smp, btw] at hg; omega))))); (case hi => (intro h; (repeat' (first | with_reducible exact alln | with_reducible refine allc ?_ ?_ | with_reducible refine andi ?_ ?_)); all_goals (first | with_reducible rfl | with_reducible exact h | with_reducible exact andl h | with_reducible exact andr h | with_reducible exact andl (andl h) | (simp only [h, Bool.and_self]; done) | (simp [h]; done) | (simp_all; done)))))))
    | (refine KO.box rfl rfl rfl rfl rfl rfl ?_; intro _ _)
    | (refine KO.alloc rfl rfl rfl rfl rfl rfl ?_; intro _ _)
    | (refine KO.buildSlice rfl rfl rfl rfl rfl rfl rfl rfl rfl rfl rfl rfl rfl rfl ?_; intro _ _)
    | ((first | apply KO.store (i := 0) rfl rfl rfl rfl rfl rfl rfl rfl ?hl rfl ?hw ?ho ?hs | apply KO.store (i := 1) rfl rfl rfl rfl rfl rfl rfl rfl ?hl rfl ?hw ?ho ?hs | apply KO.store (i := 2) rfl rfl rfl rfl rfl rfl rfl rfl ?hl rfl ?hw ?ho ?hs | apply KO.store (i := 3) rfl rfl rfl rfl rfl rfl rfl rfl ?hl rfl ?hw ?ho ?hs | apply KO.store (i := 4) rfl rfl rfl rfl rfl rfl rfl rfl ?hl rfl ?hw ?ho ?hs | apply KO.store (i := 5) rfl rfl rfl rfl rfl rfl rfl rfl ?hl rfl ?hw ?ho ?hs | apply KO.store (i := 6) rfl rfl rfl rfl rfl rfl rfl rfl ?hl rfl ?hw ?ho ?hs | apply KO.store (i := 7) rfl rfl rfl rfl rfl rfl rfl rfl ?hl rfl ?hw ?ho ?hs); (case hl => rfl); (case hw => rfl); (case ho => rfl); (case hs => rfl))
    | (refine KW.cond rfl ?_ ?_ <;> (intro hc; try simp only [Bool.or_eq_false_iff, Bool.or_eq_true, Bool.and_eq_true, Bool.and_eq_false_iff, Bool.not_eq_true', Bool.not_eq_false', Bool.not_eq_true, Bool.not_eq_false, decide_eq_true_eq, decide_eq_false_iff_not, Bool.not_not, beq_iff_eq, bne_iff_ne, Bool.beq_eq_decide_eq, gRight, smp, btw] at hc))
    | fail)
  ((first | apply At.done_ret | apply At.done_normal); (focus (repeat' (first | exact ResVs.nil' | apply ResVs.cons' | exact ResV.tmp' rfl | (apply ResV.cell1 rfl ?hm rfl rfl ?hc; (case hm => repeat (first | exact List.Mem.head _ | apply List.Mem.tail _ | apply List.mem_append_right _)); (case hc => rfl)) | (apply ResV.cellN rfl ?hm rfl rfl rfl ?hc; (case hm => repeat (first | exact List.Mem.head _ | apply List.Mem.tail _ | apply List.mem_append_right _)); (case hc => rfl))))); dsimp only [resVal])
  simp only [gHas, btw]; grind
theorem rFits_p (w h x y bw bh : Int) : Go.K.Pure Try.prog 27 #[.agg #[.int .i64 w, .int .i64 h], .agg #[.int .i64 x, .int .i64 y, .int .i64 bw, .int .i64 bh]] (.bool (gFits w h x y bw bh)) := by
  refine Tr.pure (Tr.of_body Try.tt (args := [.agg #[.int .i64 w, .int .i64 h], .agg #[.int .i64 x, .int .i64 y, .int .i64 bw, .int .i64 bh]]) (fr := [(0, true, .agg #[.int .i64 w, .int .i64 h]), (1, true, .agg #[.int .i64 x, .int .i64 y, .int .i64 bw, .int .i64 bh])]) Try.func27 rfl (by decide) rfl Try.ntmps27 rfl rfl ?_)
  intro E _
  repeat' (first
    | refine KW.seq ?_
    | refine KW.region ?_
    | refine KO.nil ?_
    | refine At.then_normal ?_
    | refine KW.skip ?_
    | refine KW.ret ?_
    | refine At.then_ret ?_
    | refine KW.block ?_
    | refine KW.exit ?_
    | refine At.block_normal ?_
    | refine At.block_ret ?_
    | refine At.loop_ret ?_
    | refine At.then_exit ?_
    | refine At.block_here rfl ?_
    | refine At.block_there rfl ?_
    | refine At.loop_exit ?_
    | refine At.cut_ret ?_
    | refine At.cut_exit ?_
    | (refine At.cut_same ?_; repeat' (first | exact FLe.nil _ | refine FLe.cons rfl rfl ?_))
    | refine KW.cond_t rfl (by first | with_reducible rfl | decide) ?_
    | refine KW.cond_f rfl (by first | with_reducible rfl | decide) ?_
    | refine KW.draw 0 (by decide +kernel) ?_
    | refine KW.drawU rfl (by decide +kernel) ?_
    | refine KD.zero ?_
    | refine KD.skip' rfl (by first | with_reducible rfl | decide) rfl rfl ?_
    | refine KO.skip' rfl (by first | with_reducible rfl | decide) rfl rfl ?_
    | refine KO.skip0' rfl (by first | with_reducible rfl | decide) rfl ?_
    | ((first | apply KO.val rfl rfl rfl | apply KO.valIn rfl rfl rfl | apply KD.val rfl rfl rfl | apply KD.valIn rfl rfl rfl); (((first | ((first | apply qt_add rfl rfl rfl ?hi ?om | apply qt_sub rfl rfl rfl ?hi ?om | apply qt_mul rfl rfl rfl ?hi ?om | apply qt_remN rfl rfl rfl ?hi ?om | apply qt_quoN rfl rfl rfl ?hi ?om); (case om => (intro hg; first | omega | (simp only [Bool.or_eq_false_iff, Bool.or_eq_true, Bool.and_eq_true, Bool.and_eq_false_iff, Bool.not_eq_true', Bool.not_eq_false', Bool.not_eq_true, Bool.not_eq_false, decide_eq_true_eq, decide_eq_false_iff_not, Bool.not_not, beq_iff_eq, bne_iff_ne, Bool.beq_eq_decide_eq, gRight, smp, btw] at hg; omega)))) | apply qt_ev rfl ?hi | (apply qt_load1 rfl rfl ?hi rfl rfl ?hm ?hc; (case hm => repeat (first | exact List.Mem.head _ | apply List.Mem.tail _ | apply List.mem_append_right _)); (case hc => rfl)) | (apply qt_loadN rfl rfl ?hi rfl rfl rfl ?hm ?hc; (case hm => repeat (first | exact List.Mem.head _ | apply List.Mem.tail _ | apply List.mem_append_right _)); (case hc => rfl)) | ((first | apply qt_indexAddr_arr rfl rfl rfl ?hi rfl rfl ?om | apply qt_indexAddr_slice rfl rfl rfl ?hi rfl rfl ?om); (case om => (intro hg; first | omega | (simp only [Bool.or_eq_false_iff, Bool.or_eq_true, Bool.and_eq_true, Bool.and_eq_false_iff, Bool.not_eq_true', Bool.not_eq_false', Bool.not_eq_true, Bool.not_eq_false, decide_eq_true_eq, decide_eq_false_iff_not, Bool.not_not, beq_iff_eq, bne_iff_ne, Bool.beq_eq_decide_eq, gRight, smp, btw] at hg; omega)))) | apply qt_call rfl rfl ?hi (fun hg => rMay_p _ _) | apply qt_call rfl rfl ?hi (fun hg => rRight_p _ _ _ _) | apply qt_pick_t rfl rfl (by first | with_reducible rfl | decide) rfl ?hi | apply qt_pick_f rfl rfl (by first | with_reducible rfl | decide) rfl ?hi | ((first | apply qt_pick_and rfl rfl rfl ?hi ?pj | apply qt_pick_or rfl rfl rfl ?hi ?pj); (case pj => (intro h h2; first | with_reducible exact h2 | with_reducible rfl | (simp [h2]; done) | (simp_all; done)))) | apply qt_build rfl rfl ?hi rfl | apply qt_eqs rfl rfl rfl ?hi rfl (Or.inl rfl) | apply qt_nes rfl rfl rfl ?hi rfl (Or.inl rfl) | ((first | apply qt_rem rfl rfl rfl ?hi ?om | apply qt_quo rfl rfl rfl ?hi ?om | apply qt_shr rfl rfl rfl ?hi ?om | apply qt_shl rfl rfl rfl ?hi ?om); (case om => (intro hg; first | omega | (simp only [Bool.or_eq_false_iff, Bool.or_eq_true, Bool.and_eq_true, Bool.and_eq_false_iff, Bool.not_eq_true', Bool.not_eq_false', Bool.not_eq_true, Bool.not_eq_false, decide_eq_true_eq, decide_eq_false_iff_not, Bool.not_not, beq_iff_eq, bne_iff_ne, Bool.beq_eq_decide_eq, gRight, smp, btw] at hg; omega))))); (case hi => (intro h; (repeat' (first | with_reducible exact alln | with_reducible refine allc ?_ ?_ | with_reducible refine andi ?_ ?_)); all_goals (first | with_reducible rfl | with_reducible exact h | with_reducible exact andl h | with_reducible exact andr h | with_reducible exact andl (andl h) | (simp only [h, Bool.and_self]; done) | (simp [h]; done) | (simp_all; done)))))))
    | (refine KO.box rfl rfl rfl rfl rfl rfl ?_; intro _ _)
    | (refine KO.alloc rfl rfl rfl rfl rfl rfl ?_; intro _ _)
    | (refine KO.buildSlice rfl rfl rfl rfl rfl rfl rfl rfl rfl rfl rfl rfl rfl rfl ?_; intro _ _)
    | ((first | apply KO.store (i := 0) rfl rfl rfl rfl rfl rfl rfl rfl ?hl rfl ?hw ?ho ?hs | apply KO.store (i := 1) rfl rfl rfl rfl rfl rfl rfl rfl ?hl rfl ?hw ?ho ?hs | apply KO.store (i := 2) rfl rfl rfl rfl rfl rfl rfl rfl ?hl rfl ?hw ?ho ?hs | apply KO.store (i := 3) rfl rfl rfl rfl rfl rfl rfl rfl ?hl rfl ?hw ?ho ?hs | apply KO.store (i := 4) rfl rfl rfl rfl rfl rfl rfl rfl ?hl rfl ?hw ?ho ?hs | apply KO.store (i := 5) rfl rfl rfl rfl rfl rfl rfl rfl ?hl rfl ?hw ?ho ?hs | apply KO.store (i := 6) rfl rfl rfl rfl rfl rfl rfl rfl ?hl rfl ?hw ?ho ?hs | apply KO.store (i := 7) rfl rfl rfl rfl rfl rfl rfl rfl ?hl rfl ?hw ?ho ?hs); (case hl => rfl); (case hw => rfl); (case ho => rfl); (case hs => rfl))
    | (refine KW.cond rfl ?_ ?_ <;> (intro hc; try simp only [Bool.or_eq_false_iff, Bool.or_eq_true, Bool.and_eq_true, Bool.and_eq_false_iff, Bool.not_eq_true', Bool.not_eq_false', Bool.not_eq_true, Bool.not_eq_false, decide_eq_true_eq, decide_eq_false_iff_not, Bool.not_not, beq_iff_eq, bne_iff_ne, Bool.beq_eq_decide_eq, gRight, smp, btw] at hc))
    | fail)
  ((first | apply At.done_ret | apply At.done_normal); (focus (repeat' (first | exact ResVs.nil' | apply ResVs.cons' | exact ResV.tmp' rfl | (apply ResV.cell1 rfl ?hm rfl rfl ?hc; (case hm => repeat (first | exact List.Mem.head _ | apply List.Mem.tail _ | apply List.mem_append_right _)); (case hc => rfl)) | (apply ResV.cellN rfl ?hm rfl rfl rfl ?hc; (case hm => repeat (first | exact List.Mem.head _ | apply List.Mem.tail _ | apply List.mem_append_right _)); (case hc => rfl))))); dsimp only [resVal])
  congr 1; rw [Bool.eq_iff_iff]
  simp only [gFits, gIn, gMay, gRight, smp, btw, Bool.and_eq_true, decide_eq_true_eq]; omega
end Go.Proofs.Ytfcnkfccjlbnhaa
