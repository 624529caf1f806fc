/- Geometry: the functions without loops. -/
import Derived.Test.YthmiiamcmnciiaaDoorTt
import Derived.Test.YthmiiamcmnciiaaDoorKF
namespace Go.Proofs.YthmiiamcmnciiaaDoor
open Go.K

theorem Tryd.own : ownKnob Tryd.prog.godebug = none := by kernel_rfl
theorem Tryd.laidOut : laidOutB Tryd.prog = true := by kernel_rfl

def btw (n lo hi : Int) : Bool := decide (lo ≤ n) && decide (n ≤ hi)

theorem between_p (n lo hi : Int) : Go.K.Pure Tryd.prog 42 #[.int .i64 n, .int .i64 lo, .int .i64 hi] (.bool (btw n lo hi)) := by
  refine Tr.pure (Tr.of_body Tryd.tt (args := [.int .i64 n, .int .i64 lo, .int .i64 hi]) (fr := [(0, true, .int .i64 n), (1, true, .int .i64 lo), (2, true, .int .i64 hi)]) Tryd.func42 rfl (by decide) rfl Tryd.ntmps42 rfl rfl ?_)
  intro E _
  repeat' (first
    | refine KW.seq ?_
    | refine KW.region ?_
    | refine KO.nil ?_
    | refine At.then_normal ?_
    | refine KW.skip ?_
    | refine KW.ret ?_
    | refine At.then_ret ?_
    | refine KW.block ?_
    | refine KW.exit ?_
    | refine At.block_normal ?_
    | refine At.block_ret ?_
    | refine At.loop_ret ?_
    | refine At.then_exit ?_
    | refine At.block_here rfl ?_
    | refine At.block_there rfl ?_
    | refine At.loop_exit ?_
    | refine At.cut_ret ?_
    | refine At.cutA_ret ?_
    | refine At.cutA_exit ?_
    | refine At.cut_exit ?_
    | (refine At.cut_same ?_; repeat' (first | exact FLe.nil _ | refine FLe.cons rfl rfl ?_))
    | refine KW.cond_t rfl (by first | with_reducible rfl | decide) ?_
    | refine KW.cond_f rfl (by first | with_reducible rfl | decide) ?_
    | refine KO.skip' rfl (by first | with_reducible rfl | decide) rfl rfl ?_
    | refine KO.skip0' rfl (by first | with_reducible rfl | decide) rfl ?_
    | ((first | apply KO.val rfl rfl rfl ?kq ?_ | apply KO.valIn rfl rfl rfl ?kq ?_); (case kq => ((first | apply qt_ev rfl ?hi | apply qt_pick_t rfl rfl (by first | with_reducible rfl | decide) rfl ?hi | apply qt_pick_f rfl rfl (by first | with_reducible rfl | decide) rfl ?hi | ((first | apply qt_pick_and rfl rfl rfl ?hi ?pj | apply qt_pick_or rfl rfl rfl ?hi ?pj); (case pj => (intro h h2; first | with_reducible exact h2 | with_reducible exact andi h h2 | (rw [h2]; rfl) | (rw [h, h2]; rfl) | with_reducible rfl | (simp [h2]; done) | (simp_all; done)))) | apply qt_eqs rfl rfl rfl ?hi rfl (Or.inl rfl) | apply qt_nes rfl rfl rfl ?hi rfl (Or.inl rfl)); (case hi => (intro h; (repeat' (first | with_reducible exact alln | with_reducible refine allc ?_ ?_ | with_reducible refine andi ?_ ?_)); all_goals (first | with_reducible rfl | with_reducible exact h | with_reducible exact andl h | with_reducible exact andr h | with_reducible exact andl (andl h) | (simp only [h, Bool.and_self]; done) | (simp [h]; done) | (simp_all; done)))))))
    | (refine KW.cond rfl ?_ ?_ <;> (intro hc; try simp only [Bool.or_eq_false_iff, Bool.or_eq_true, Bool.and_eq_true, Bool.and_eq_false_iff, Bool.not_eq_true', Bool.not_eq_false', Bool.not_eq_true, Bool.not_eq_false, decide_eq_true_eq, decide_eq_false_iff_not, Bool.not_not, beq_iff_eq, bne_iff_ne, Bool.beq_eq_decide_eq] at hc))
    | exact absurd trivial ‹¬True›
    | fail)
  apply At.ret1 rfl; rfl

def smp (x y : Int) : Bool := btw x (-1048576) 1048576 && btw y (-1048576) 1048576
def apX (x y u v : Int) : Int := if smp x y && smp u v then max x u - min x u else 0
def apY (x y u v : Int) : Int := if smp x y && smp u v then max y v - min y v else 0
def apE (x y u v : Int) : Int := if smp x y && smp u v then 0 else 10
def gFar (x y u v : Int) : Int := max (apX x y u v) (apY x y u v)
def gWalk (x y u v : Int) : Int := apX x y u v + apY x y u v
theorem ap_bd (x y u v : Int) : 0 ≤ apX x y u v ∧ apX x y u v ≤ 2097152 ∧ 0 ≤ apY x y u v ∧ apY x y u v ≤ 2097152 := by
  simp only [apX, apY, smp, btw]; grind
def gMay (w h : Int) : Bool := btw w 1 256 && btw h 1 256
theorem May_p (w h : Int) : Go.K.Pure Tryd.prog 27 #[.agg #[.int .i64 w, .int .i64 h]] (.bool (gMay w h)) := by
  refine Tr.pure (Tr.of_body Tryd.tt (args := [.agg #[.int .i64 w, .int .i64 h]]) (fr := [(0, true, .agg #[.int .i64 w, .int .i64 h])]) Tryd.func27 rfl (by decide) rfl Tryd.ntmps27 rfl rfl ?_)
  intro E _
  repeat' (first
    | refine KW.seq ?_
    | refine KW.region ?_
    | refine KO.nil ?_
    | refine At.then_normal ?_
    | refine KW.skip ?_
    | refine KW.ret ?_
    | refine At.then_ret ?_
    | refine KW.block ?_
    | refine KW.exit ?_
    | refine At.block_normal ?_
    | refine At.block_ret ?_
    | refine At.loop_ret ?_
    | refine At.then_exit ?_
    | refine At.block_here rfl ?_
    | refine At.block_there rfl ?_
    | refine At.loop_exit ?_
    | refine At.cut_ret ?_
    | refine At.cutA_ret ?_
    | refine At.cutA_exit ?_
    | refine At.cut_exit ?_
    | (refine At.cut_same ?_; repeat' (first | exact FLe.nil _ | refine FLe.cons rfl rfl ?_))
    | refine KW.cond_t rfl (by first | with_reducible rfl | decide) ?_
    | refine KW.cond_f rfl (by first | with_reducible rfl | decide) ?_
    | refine KO.skip' rfl (by first | with_reducible rfl | decide) rfl rfl ?_
    | refine KO.skip0' rfl (by first | with_reducible rfl | decide) rfl ?_
    | ((first | apply KO.val rfl rfl rfl ?kq ?_ | apply KO.valIn rfl rfl rfl ?kq ?_); (case kq => ((first | apply qt_ev rfl ?hi | ((first | apply qt_load1 rfl rfl ?hi rfl rfl ?hm ?hc | apply qt_loadN rfl rfl ?hi rfl rfl rfl ?hm ?hc); (case hm => repeat (first | exact List.Mem.head _ | apply List.Mem.tail _ | apply List.mem_append_right _)); (case hc => rfl)) | refine qt_call rfl rfl ?hi (fun hg => between_p _ _ _) | apply qt_pick_t rfl rfl (by first | with_reducible rfl | decide) rfl ?hi | apply qt_pick_f rfl rfl (by first | with_reducible rfl | decide) rfl ?hi | ((first | apply qt_pick_and rfl rfl rfl ?hi ?pj | apply qt_pick_or rfl rfl rfl ?hi ?pj); (case pj => (intro h h2; first | with_reducible exact h2 | with_reducible exact andi h h2 | (rw [h2]; rfl) | (rw [h, h2]; rfl) | with_reducible rfl | (simp [h2]; done) | (simp_all; done)))) | apply qt_eqs rfl rfl rfl ?hi rfl (Or.inl rfl) | apply qt_nes rfl rfl rfl ?hi rfl (Or.inl rfl)); (case hi => (intro h; (repeat' (first | with_reducible exact alln | with_reducible refine allc ?_ ?_ | with_reducible refine andi ?_ ?_)); all_goals (first | with_reducible rfl | with_reducible exact h | with_reducible exact andl h | with_reducible exact andr h | with_reducible exact andl (andl h) | (simp only [h, Bool.and_self]; done) | (simp [h]; done) | (simp_all; done)))))))
    | (refine KO.box rfl rfl rfl rfl rfl rfl ?_; intro _ _)
    | (refine KW.cond rfl ?_ ?_ <;> (intro hc; try simp only [Bool.or_eq_false_iff, Bool.or_eq_true, Bool.and_eq_true, Bool.and_eq_false_iff, Bool.not_eq_true', Bool.not_eq_false', Bool.not_eq_true, Bool.not_eq_false, decide_eq_true_eq, decide_eq_false_iff_not, Bool.not_not, beq_iff_eq, bne_iff_ne, Bool.beq_eq_decide_eq] at hc))
    | exact absurd trivial ‹¬True›
    | fail)
  apply At.ret1 rfl; rfl
def gIn (w h x y : Int) : Bool := (gMay w h && btw x 0 (w - 1)) && btw y 0 (h - 1)
theorem In_p (w h x y : Int) : Go.K.Pure Tryd.prog 37 #[.agg #[.int .i64 w, .int .i64 h], .agg #[.int .i64 x, .int .i64 y]] (.bool (gIn w h x y)) := by
  refine Tr.pure (Tr.of_body Tryd.tt (args := [.agg #[.int .i64 w, .int .i64 h], .agg #[.int .i64 x, .int .i64 y]]) (fr := [(0, true, .agg #[.int .i64 w, .int .i64 h]), (1, true, .agg #[.int .i64 x, .int .i64 y])]) Tryd.func37 rfl (by decide) rfl Tryd.ntmps37 rfl rfl ?_)
  intro E _
  repeat' (first
    | refine KW.seq ?_
    | refine KW.region ?_
    | refine KO.nil ?_
    | refine At.then_normal ?_
    | refine KW.skip ?_
    | refine KW.ret ?_
    | refine At.then_ret ?_
    | refine KW.block ?_
    | refine KW.exit ?_
    | refine At.block_normal ?_
    | refine At.block_ret ?_
    | refine At.loop_ret ?_
    | refine At.then_exit ?_
    | refine At.block_here rfl ?_
    | refine At.block_there rfl ?_
    | refine At.loop_exit ?_
    | refine At.cut_ret ?_
    | refine At.cutA_ret ?_
    | refine At.cutA_exit ?_
    | refine At.cut_exit ?_
    | (refine At.cut_same ?_; repeat' (first | exact FLe.nil _ | refine FLe.cons rfl rfl ?_))
    | refine KW.cond_t rfl (by first | with_reducible rfl | decide) ?_
    | refine KW.cond_f rfl (by first | with_reducible rfl | decide) ?_
    | refine KO.skip' rfl (by first | with_reducible rfl | decide) rfl rfl ?_
    | refine KO.skip0' rfl (by first | with_reducible rfl | decide) rfl ?_
    | ((first | apply KO.val rfl rfl rfl ?kq ?_ | apply KO.valIn rfl rfl rfl ?kq ?_); (case kq => ((first | ((first | apply qt_sub rfl rfl rfl ?hi ?om); (case om => (intro hg; first | omega | (simp only [Bool.or_eq_false_iff, Bool.or_eq_true, Bool.and_eq_true, Bool.and_eq_false_iff, Bool.not_eq_true', Bool.not_eq_false', Bool.not_eq_true, Bool.not_eq_false, decide_eq_true_eq, decide_eq_false_iff_not, Bool.not_not, beq_iff_eq, bne_iff_ne, Bool.beq_eq_decide_eq, gMay, btw] at hg; omega)))) | apply qt_ev rfl ?hi | ((first | apply qt_load1 rfl rfl ?hi rfl rfl ?hm ?hc | apply qt_loadN rfl rfl ?hi rfl rfl rfl ?hm ?hc); (case hm => repeat (first | exact List.Mem.head _ | apply List.Mem.tail _ | apply List.mem_append_right _)); (case hc => rfl)) | refine qt_call rfl rfl ?hi (fun hg => between_p _ _ _) | refine qt_call rfl rfl ?hi (fun hg => May_p _ _) | apply qt_pick_t rfl rfl (by first | with_reducible rfl | decide) rfl ?hi | apply qt_pick_f rfl rfl (by first | with_reducible rfl | decide) rfl ?hi | ((first | apply qt_pick_and rfl rfl rfl ?hi ?pj | apply qt_pick_or rfl rfl rfl ?hi ?pj); (case pj => (intro h h2; first | with_reducible exact h2 | with_reducible exact andi h h2 | (rw [h2]; rfl) | (rw [h, h2]; rfl) | with_reducible rfl | (simp [h2]; done) | (simp_all; done)))) | apply qt_eqs rfl rfl rfl ?hi rfl (Or.inl rfl) | apply qt_nes rfl rfl rfl ?hi rfl (Or.inl rfl)); (case hi => (intro h; (repeat' (first | with_reducible exact alln | with_reducible refine allc ?_ ?_ | with_reducible refine andi ?_ ?_)); all_goals (first | with_reducible rfl | with_reducible exact h | with_reducible exact andl h | with_reducible exact andr h | with_reducible exact andl (andl h) | (simp only [h, Bool.and_self]; done) | (simp [h]; done) | (simp_all; done)))))))
    | (refine KO.box rfl rfl rfl rfl rfl rfl ?_; intro _ _)
    | (refine KW.cond rfl ?_ ?_ <;> (intro hc; try simp only [Bool.or_eq_false_iff, Bool.or_eq_true, Bool.and_eq_true, Bool.and_eq_false_iff, Bool.not_eq_true', Bool.not_eq_false', Bool.not_eq_true, Bool.not_eq_false, decide_eq_true_eq, decide_eq_false_iff_not, Bool.not_not, beq_iff_eq, bne_iff_ne, Bool.beq_eq_decide_eq, gMay, btw] at hc))
    | exact absurd trivial ‹¬True›
    | fail)
  apply At.ret1 rfl; rfl

def gIdx (w h x y : Int) : Int := if gIn w h x y then y * w + x else 0
def gIdxE (w h x y : Int) : Int := if gIn w h x y then 0 else 10
theorem Index_p (w h x y : Int) : Go.K.Pure Tryd.prog 38 #[.agg #[.int .i64 w, .int .i64 h], .agg #[.int .i64 x, .int .i64 y]] (.tuple #[.int .i64 (gIdx w h x y), .int .i64 (gIdxE w h x y)]) := by
  refine Tr.pure (Tr.of_body Tryd.tt (args := [.agg #[.int .i64 w, .int .i64 h], .agg #[.int .i64 x, .int .i64 y]]) (fr := [(0, true, .agg #[.int .i64 w, .int .i64 h]), (1, true, .agg #[.int .i64 x, .int .i64 y])]) Tryd.func38 rfl (by decide) rfl Tryd.ntmps38 rfl rfl ?_)
  intro E _
  have hm := fun a b => mulb (A := 256) (B := 256) (a := y) (b := w) a b
  repeat' (first
    | refine KW.seq ?_
    | refine KW.region ?_
    | refine KO.nil ?_
    | refine At.then_normal ?_
    | refine KW.skip ?_
    | refine KW.ret ?_
    | refine At.then_ret ?_
    | refine KW.block ?_
    | refine KW.exit ?_
    | refine At.block_normal ?_
    | refine At.block_ret ?_
    | refine At.loop_ret ?_
    | refine At.then_exit ?_
    | refine At.block_here rfl ?_
    | refine At.block_there rfl ?_
    | refine At.loop_exit ?_
    | refine At.cut_ret ?_
    | refine At.cutA_ret ?_
    | refine At.cutA_exit ?_
    | refine At.cut_exit ?_
    | (refine At.cut_same ?_; repeat' (first | exact FLe.nil _ | refine FLe.cons rfl rfl ?_))
    | refine KW.cond_t rfl (by first | with_reducible rfl | decide) ?_
    | refine KW.cond_f rfl (by first | with_reducible rfl | decide) ?_
    | ((first | apply KO.val rfl rfl rfl ?kq ?_); (case kq => ((first | ((first | apply qt_add rfl rfl rfl ?hi ?om | apply qt_mul rfl rfl rfl ?hi ?om); (case om => (intro hg; first | omega | (simp only [Bool.or_eq_false_iff, Bool.or_eq_true, Bool.and_eq_true, Bool.and_eq_false_iff, Bool.not_eq_true', Bool.not_eq_false', Bool.not_eq_true, Bool.not_eq_false, decide_eq_true_eq, decide_eq_false_iff_not, Bool.not_not, beq_iff_eq, bne_iff_ne, Bool.beq_eq_decide_eq, gIn, gMay, btw] at hg; omega)))) | apply qt_ev rfl ?hi | ((first | apply qt_load1 rfl rfl ?hi rfl rfl ?hm ?hc | apply qt_loadN rfl rfl ?hi rfl rfl rfl ?hm ?hc); (case hm => repeat (first | exact List.Mem.head _ | apply List.Mem.tail _ | apply List.mem_append_right _)); (case hc => rfl)) | refine qt_call rfl rfl ?hi (fun hg => In_p _ _ _ _) | apply qt_eqs rfl rfl rfl ?hi rfl (Or.inl rfl) | apply qt_nes rfl rfl rfl ?hi rfl (Or.inl rfl)); (case hi => (intro h; (repeat' (first | with_reducible exact alln | with_reducible refine allc ?_ ?_ | with_reducible refine andi ?_ ?_)); all_goals (first | with_reducible rfl | with_reducible exact h | with_reducible exact andl h | with_reducible exact andr h | with_reducible exact andl (andl h) | (simp only [h, Bool.and_self]; done) | (simp [h]; done) | (simp_all; done)))))))
    | (refine KO.box rfl rfl rfl rfl rfl rfl ?_; intro _ _)
    | (refine KW.cond rfl ?_ ?_ <;> (intro hc; try simp only [Bool.or_eq_false_iff, Bool.or_eq_true, Bool.and_eq_true, Bool.and_eq_false_iff, Bool.not_eq_true', Bool.not_eq_false', Bool.not_eq_true, Bool.not_eq_false, decide_eq_true_eq, decide_eq_false_iff_not, Bool.not_not, beq_iff_eq, bne_iff_ne, Bool.beq_eq_decide_eq, gIn, gMay, btw] at hc))
    | exact absurd trivial ‹¬True›
    | fail)
  · apply At.ret2 rfl rfl
    simp only [gIdx, gIdxE, gIn, gMay, btw]; grind
  · apply At.ret2 rfl rfl
    simp only [gIdx, gIdxE, gIn, gMay, btw]; grind
end Go.Proofs.YthmiiamcmnciiaaDoor
