/- MaskOf: which set bytes are, or how they are wrong. -/
import Derived.Test.YthmiiamcmnciiaaDoorAP
import Derived.Test.YthmiiamcmnciiaaDoorAR
import Derived.Test.YthmiiamcmnciiaaDoorLT
import Derived.Test.YthmiiamcmnciiaaDoorM4
import Derived.Test.YthmiiamcmnciiaaDoorK17
import Derived.Test.YthmiiamcmnciiaaDoorK24
namespace Go.Proofs.YthmiiamcmnciiaaDoor
open Go Go.K Go.ChangeShapes Go.WideShapes Go.ChangeAt Go.RowKit

set_option maxHeartbeats 16000000 in
theorem MaskOf_p (β : Nat → Option Obj) (ht : TB β) (w h : Int) (q : Option Addr) (k d : Nat) (l : List Nat) (hk : l.length = k) (hq : SL β [] 1 k (by8 l) q) (hl : Byt l) :
    Go.K.PureB Tryd.prog 4 #[.agg #[.int .i64 w, .int .i64 h], .slice q k d] β (.bool true) := by
  refine Tr.pureB ?_
  refine Tr.of_body Tryd.tt (args := [.agg #[.int .i64 w, .int .i64 h], .slice q k d]) (fr := [(0, true, .agg #[.int .i64 w, .int .i64 h]), (1, true, .slice q k d)]) Tryd.func4 rfl (by decide) rfl Tryd.ntmps4 rfl rfl ?_
  intro E hE
  subst hE
  have hawk := awake_p E.β ht
  repeat' (first
    | refine KW.seq ?_
    | refine KW.region ?_
    | refine KO.nil ?_
    | refine At.then_normal ?_
    | refine KW.skip ?_
    | refine KW.ret ?_
    | refine At.then_ret ?_
    | refine KW.block ?_
    | refine KW.exit ?_
    | refine At.block_normal ?_
    | refine At.block_ret ?_
    | refine At.loop_ret ?_
    | refine At.then_exit ?_
    | refine At.block_here rfl ?_
    | refine At.block_there rfl ?_
    | refine At.loop_exit ?_
    | refine At.cut_ret ?_
    | refine At.cutA_ret ?_
    | refine At.cutA_exit ?_
    | refine At.cut_exit ?_
    | (refine At.cut_same ?_; repeat' (first | exact FLe.nil _ | refine FLe.cons rfl rfl ?_))
    | refine KW.cond_t rfl (by first | with_reducible rfl | decide) ?_
    | refine KW.cond_f rfl (by first | with_reducible rfl | decide) ?_
    | refine KW.scope ?_
    | refine KW.label ?_
    | refine At.scope_normal ?_
    | refine At.scope_ret ?_
    | refine At.scope_exit ?_
    | refine KW.draw 0 (by decide +kernel) ?_
    | refine KW.drawU rfl (by decide +kernel) ?_
    | refine KD.zero ?_
    | refine KD.skip' rfl (by first | with_reducible rfl | decide) rfl rfl ?_
    | refine KO.skip' rfl (by first | with_reducible rfl | decide) rfl rfl ?_
    | refine KO.skip0' rfl (by first | with_reducible rfl | decide) rfl ?_
    | refine KO.skipIn rfl (by first | with_reducible rfl | decide) rfl rfl ?_
    | refine KD.skipIn rfl (by first | with_reducible rfl | decide) rfl rfl ?_
    | ((first | apply KO.val rfl rfl rfl ?kq ?_ | apply KO.valIn rfl rfl rfl ?kq ?_ | apply KD.val rfl rfl rfl ?kq ?_ | apply KD.valIn rfl rfl rfl ?kq ?_); (case kq => ((first | apply qt_ev rfl ?hi | ((first | apply qt_load1 rfl rfl ?hi rfl rfl ?hm ?hc | apply qt_loadN rfl rfl ?hi rfl rfl rfl ?hm ?hc); (case hm => repeat (first | exact List.Mem.head _ | apply List.Mem.tail _ | apply List.mem_append_right _)); (case hc => rfl)) | refine qt_call rfl rfl ?hi (fun hg => Small_p _ _) | refine qt_callQ rfl rfl ?hi (fun hg => Tr.quiet hawk) | apply qt_pick_t rfl rfl (by first | with_reducible rfl | decide) rfl ?hi | apply qt_pick_f rfl rfl (by first | with_reducible rfl | decide) rfl ?hi | ((first | apply qt_pick_and rfl rfl rfl ?hi ?pj | apply qt_pick_or rfl rfl rfl ?hi ?pj); (case pj => (intro h h2; first | with_reducible exact h2 | with_reducible exact andi h h2 | (rw [h2]; rfl) | (rw [h, h2]; rfl) | with_reducible rfl | (simp [h2]; done) | (simp_all; done)))) | apply qt_cap rfl rfl ?hi rfl | apply qt_eqs rfl rfl rfl ?hi rfl (Or.inl rfl) | apply qt_nes rfl rfl rfl ?hi rfl (Or.inl rfl)); (case hi => (intro h; (repeat' (first | with_reducible exact alln | with_reducible refine allc ?_ ?_ | with_reducible refine andi ?_ ?_)); all_goals (first | with_reducible rfl | with_reducible exact h | with_reducible exact andl h | with_reducible exact andr h | with_reducible exact andl (andl h) | (simp only [h, Bool.and_self]; done) | (simp [h]; done) | (simp_all; done)))))))
    | (refine KO.box rfl rfl rfl rfl rfl rfl ?_; intro _ _)
    | (refine KW.cond rfl ?_ ?_ <;> (intro hc; try simp only [Bool.or_eq_false_iff, Bool.or_eq_true, Bool.and_eq_true, Bool.and_eq_false_iff, Bool.not_eq_true', Bool.not_eq_false', Bool.not_eq_true, Bool.not_eq_false, decide_eq_true_eq, decide_eq_false_iff_not, Bool.not_not, beq_iff_eq, bne_iff_ne, Bool.beq_eq_decide_eq] at hc))
    | exact absurd trivial ‹¬True›
    | fail)
  · ((first | apply At.done_ret | apply At.done_normal); (focus (repeat' (first | exact ResVs.nil' | apply ResVs.cons' | exact ResV.tmp' rfl | (apply ResV.cell1 rfl ?hm rfl rfl ?hc; (case hm => repeat (first | exact List.Mem.head _ | apply List.Mem.tail _ | apply List.mem_append_right _)); (case hc => rfl)) | (apply ResV.cellN rfl ?hm rfl rfl rfl ?hc; (case hm => repeat (first | exact List.Mem.head _ | apply List.Mem.tail _ | apply List.mem_append_right _)); (case hc => rfl))))); dsimp only [resVal])
  rename_i b2 _
  have hsm := hc
  refine KO.callE rfl rfl rfl rfl rfl rfl rfl rfl (Of_p _ w h q k d l hk (by omega) hq hl) ?_
  rintro _ _ (⟨hg, rfl, rfl⟩ | ⟨hg, ho, rfl, rfl⟩ | ⟨hg, ho, bm, bw, rfl, rfl⟩)
  · skip
    repeat' (first
      | refine KW.seq ?_
      | refine KW.region ?_
      | refine KO.nil ?_
      | refine At.then_normal ?_
      | refine KW.skip ?_
      | refine KW.ret ?_
      | refine At.then_ret ?_
      | refine KW.block ?_
      | refine KW.exit ?_
      | refine At.block_normal ?_
      | refine At.block_ret ?_
      | refine At.loop_ret ?_
      | refine At.then_exit ?_
      | refine At.block_here rfl ?_
      | refine At.block_there rfl ?_
      | refine At.loop_exit ?_
      | refine At.cut_ret ?_
      | refine At.cutA_ret ?_
      | refine At.cutA_exit ?_
      | refine At.cut_exit ?_
      | (refine At.cut_same ?_; repeat' (first | exact FLe.nil _ | refine FLe.cons rfl rfl ?_))
      | refine KW.cond_t rfl (by first | with_reducible rfl | decide) ?_
      | refine KW.cond_f rfl (by first | with_reducible rfl | decide) ?_
      | refine KW.scope ?_
      | refine KW.label ?_
      | refine At.scope_normal ?_
      | refine At.scope_ret ?_
      | refine At.scope_exit ?_
      | refine KW.draw 0 (by decide +kernel) ?_
      | refine KW.drawU rfl (by decide +kernel) ?_
      | refine KD.zero ?_
      | refine KD.skip' rfl (by first | with_reducible rfl | decide) rfl rfl ?_
      | refine KO.skip' rfl (by first | with_reducible rfl | decide) rfl rfl ?_
      | refine KO.skip0' rfl (by first | with_reducible rfl | decide) rfl ?_
      | refine KO.skipIn rfl (by first | with_reducible rfl | decide) rfl rfl ?_
      | refine KD.skipIn rfl (by first | with_reducible rfl | decide) rfl rfl ?_
      | ((first | apply KO.val rfl rfl rfl ?kq ?_ | apply KO.valIn rfl rfl rfl ?kq ?_ | apply KD.val rfl rfl rfl ?kq ?_ | apply KD.valIn rfl rfl rfl ?kq ?_); (case kq => ((first | apply qt_ev rfl ?hi | ((first | apply qt_load1 rfl rfl ?hi rfl rfl ?hm ?hc | apply qt_loadN rfl rfl ?hi rfl rfl rfl ?hm ?hc); (case hm => repeat (first | exact List.Mem.head _ | apply List.Mem.tail _ | apply List.mem_append_right _)); (case hc => rfl)) | apply qt_pick_t rfl rfl (by first | with_reducible rfl | decide) rfl ?hi | apply qt_pick_f rfl rfl (by first | with_reducible rfl | decide) rfl ?hi | ((first | apply qt_pick_and rfl rfl rfl ?hi ?pj | apply qt_pick_or rfl rfl rfl ?hi ?pj); (case pj => (intro h h2; first | with_reducible exact h2 | with_reducible exact andi h h2 | (rw [h2]; rfl) | (rw [h, h2]; rfl) | with_reducible rfl | (simp [h2]; done) | (simp_all; done)))) | apply qt_cap rfl rfl ?hi rfl | apply qt_eqs rfl rfl rfl ?hi rfl (Or.inl rfl) | apply qt_nes rfl rfl rfl ?hi rfl (Or.inl rfl)); (case hi => (intro h; (repeat' (first | with_reducible exact alln | with_reducible refine allc ?_ ?_ | with_reducible refine andi ?_ ?_)); all_goals (first | with_reducible rfl | with_reducible exact h | with_reducible exact andl h | with_reducible exact andr h | with_reducible exact andl (andl h) | (simp only [h, Bool.and_self]; done) | (simp [h]; done) | (simp_all; done)))))))
      | (refine KO.box rfl rfl rfl rfl rfl rfl ?_; intro _ _)
      | (refine KW.cond rfl ?_ ?_ <;> (intro hc; try simp only [Bool.or_eq_false_iff, Bool.or_eq_true, Bool.and_eq_true, Bool.and_eq_false_iff, Bool.not_eq_true', Bool.not_eq_false', Bool.not_eq_true, Bool.not_eq_false, decide_eq_true_eq, decide_eq_false_iff_not, Bool.not_not, beq_iff_eq, bne_iff_ne, Bool.beq_eq_decide_eq] at hc))
      | exact absurd trivial ‹¬True›
      | fail)
    refine KO.callE rfl rfl rfl rfl rfl rfl rfl rfl (rOf_p _ w h q k d l hk (by omega) hq hl) ?_
    rintro _ _ (⟨_, rfl, rfl⟩ | ⟨h1, _⟩ | ⟨h1, _⟩)
    · skip
      repeat' (first
        | refine KW.seq ?_
        | refine KW.region ?_
        | refine KO.nil ?_
        | refine At.then_normal ?_
        | refine KW.skip ?_
        | refine KW.ret ?_
        | refine At.then_ret ?_
        | refine KW.block ?_
        | refine KW.exit ?_
        | refine At.block_normal ?_
        | refine At.block_ret ?_
        | refine At.loop_ret ?_
        | refine At.then_exit ?_
        | refine At.block_here rfl ?_
        | refine At.block_there rfl ?_
        | refine At.loop_exit ?_
        | refine At.cut_ret ?_
        | refine At.cutA_ret ?_
        | refine At.cutA_exit ?_
        | refine At.cut_exit ?_
        | (refine At.cut_same ?_; repeat' (first | exact FLe.nil _ | refine FLe.cons rfl rfl ?_))
        | refine KW.cond_t rfl (by first | with_reducible rfl | decide) ?_
        | refine KW.cond_f rfl (by first | with_reducible rfl | decide) ?_
        | refine KW.scope ?_
        | refine KW.label ?_
        | refine At.scope_normal ?_
        | refine At.scope_ret ?_
        | refine At.scope_exit ?_
        | refine KW.draw 0 (by decide +kernel) ?_
        | refine KW.drawU rfl (by decide +kernel) ?_
        | refine KD.zero ?_
        | refine KD.skip' rfl (by first | with_reducible rfl | decide) rfl rfl ?_
        | refine KO.skip' rfl (by first | with_reducible rfl | decide) rfl rfl ?_
        | refine KO.skip0' rfl (by first | with_reducible rfl | decide) rfl ?_
        | refine KO.skipIn rfl (by first | with_reducible rfl | decide) rfl rfl ?_
        | refine KD.skipIn rfl (by first | with_reducible rfl | decide) rfl rfl ?_
        | ((first | apply KO.val rfl rfl rfl ?kq ?_ | apply KO.valIn rfl rfl rfl ?kq ?_ | apply KD.val rfl rfl rfl ?kq ?_ | apply KD.valIn rfl rfl rfl ?kq ?_); (case kq => ((first | apply qt_ev rfl ?hi | ((first | apply qt_load1 rfl rfl ?hi rfl rfl ?hm ?hc | apply qt_loadN rfl rfl ?hi rfl rfl rfl ?hm ?hc); (case hm => repeat (first | exact List.Mem.head _ | apply List.Mem.tail _ | apply List.mem_append_right _)); (case hc => rfl)) | refine qt_callQ rfl rfl ?hi (fun hg => Tr.quiet hawk) | apply qt_pick_t rfl rfl (by first | with_reducible rfl | decide) rfl ?hi | apply qt_pick_f rfl rfl (by first | with_reducible rfl | decide) rfl ?hi | ((first | apply qt_pick_and rfl rfl rfl ?hi ?pj | apply qt_pick_or rfl rfl rfl ?hi ?pj); (case pj => (intro h h2; first | with_reducible exact h2 | with_reducible exact andi h h2 | (rw [h2]; rfl) | (rw [h, h2]; rfl) | with_reducible rfl | (simp [h2]; done) | (simp_all; done)))) | apply qt_cap rfl rfl ?hi rfl | apply qt_eqs rfl rfl rfl ?hi rfl (Or.inl rfl) | apply qt_nes rfl rfl rfl ?hi rfl (Or.inl rfl)); (case hi => (intro h; (repeat' (first | with_reducible exact alln | with_reducible refine allc ?_ ?_ | with_reducible refine andi ?_ ?_)); all_goals (first | with_reducible rfl | with_reducible exact h | with_reducible exact andl h | with_reducible exact andr h | with_reducible exact andl (andl h) | (simp only [h, Bool.and_self]; done) | (simp [h]; done) | (simp_all; done)))))))
        | (refine KO.box rfl rfl rfl rfl rfl rfl ?_; intro _ _)
        | (refine KW.cond rfl ?_ ?_ <;> (intro hc; try simp only [Bool.or_eq_false_iff, Bool.or_eq_true, Bool.and_eq_true, Bool.and_eq_false_iff, Bool.not_eq_true', Bool.not_eq_false', Bool.not_eq_true, Bool.not_eq_false, decide_eq_true_eq, decide_eq_false_iff_not, Bool.not_not, beq_iff_eq, bne_iff_ne, Bool.beq_eq_decide_eq] at hc))
        | exact absurd trivial ‹¬True›
        | fail)
      ((first | apply At.done_ret | apply At.done_normal); (focus (repeat' (first | exact ResVs.nil' | apply ResVs.cons' | exact ResV.tmp' rfl | (apply ResV.cell1 rfl ?hm rfl rfl ?hc; (case hm => repeat (first | exact List.Mem.head _ | apply List.Mem.tail _ | apply List.mem_append_right _)); (case hc => rfl)) | (apply ResV.cellN rfl ?hm rfl rfl rfl ?hc; (case hm => repeat (first | exact List.Mem.head _ | apply List.Mem.tail _ | apply List.mem_append_right _)); (case hc => rfl))))); dsimp only [resVal])
    · rw [hg] at h1; cases h1
    · rw [hg] at h1; cases h1
  · skip
    repeat' (first
      | refine KW.seq ?_
      | refine KW.region ?_
      | refine KO.nil ?_
      | refine At.then_normal ?_
      | refine KW.skip ?_
      | refine KW.ret ?_
      | refine At.then_ret ?_
      | refine KW.block ?_
      | refine KW.exit ?_
      | refine At.block_normal ?_
      | refine At.block_ret ?_
      | refine At.loop_ret ?_
      | refine At.then_exit ?_
      | refine At.block_here rfl ?_
      | refine At.block_there rfl ?_
      | refine At.loop_exit ?_
      | refine At.cut_ret ?_
      | refine At.cutA_ret ?_
      | refine At.cutA_exit ?_
      | refine At.cut_exit ?_
      | (refine At.cut_same ?_; repeat' (first | exact FLe.nil _ | refine FLe.cons rfl rfl ?_))
      | refine KW.cond_t rfl (by first | with_reducible rfl | decide) ?_
      | refine KW.cond_f rfl (by first | with_reducible rfl | decide) ?_
      | refine KW.scope ?_
      | refine KW.label ?_
      | refine At.scope_normal ?_
      | refine At.scope_ret ?_
      | refine At.scope_exit ?_
      | refine KW.draw 0 (by decide +kernel) ?_
      | refine KW.drawU rfl (by decide +kernel) ?_
      | refine KD.zero ?_
      | refine KD.skip' rfl (by first | with_reducible rfl | decide) rfl rfl ?_
      | refine KO.skip' rfl (by first | with_reducible rfl | decide) rfl rfl ?_
      | refine KO.skip0' rfl (by first | with_reducible rfl | decide) rfl ?_
      | refine KO.skipIn rfl (by first | with_reducible rfl | decide) rfl rfl ?_
      | refine KD.skipIn rfl (by first | with_reducible rfl | decide) rfl rfl ?_
      | ((first | apply KO.val rfl rfl rfl ?kq ?_ | apply KO.valIn rfl rfl rfl ?kq ?_ | apply KD.val rfl rfl rfl ?kq ?_ | apply KD.valIn rfl rfl rfl ?kq ?_); (case kq => ((first | apply qt_ev rfl ?hi | ((first | apply qt_load1 rfl rfl ?hi rfl rfl ?hm ?hc | apply qt_loadN rfl rfl ?hi rfl rfl rfl ?hm ?hc); (case hm => repeat (first | exact List.Mem.head _ | apply List.Mem.tail _ | apply List.mem_append_right _)); (case hc => rfl)) | apply qt_pick_t rfl rfl (by first | with_reducible rfl | decide) rfl ?hi | apply qt_pick_f rfl rfl (by first | with_reducible rfl | decide) rfl ?hi | ((first | apply qt_pick_and rfl rfl rfl ?hi ?pj | apply qt_pick_or rfl rfl rfl ?hi ?pj); (case pj => (intro h h2; first | with_reducible exact h2 | with_reducible exact andi h h2 | (rw [h2]; rfl) | (rw [h, h2]; rfl) | with_reducible rfl | (simp [h2]; done) | (simp_all; done)))) | apply qt_cap rfl rfl ?hi rfl | apply qt_eqs rfl rfl rfl ?hi rfl (Or.inl rfl) | apply qt_nes rfl rfl rfl ?hi rfl (Or.inl rfl)); (case hi => (intro h; (repeat' (first | with_reducible exact alln | with_reducible refine allc ?_ ?_ | with_reducible refine andi ?_ ?_)); all_goals (first | with_reducible rfl | with_reducible exact h | with_reducible exact andl h | with_reducible exact andr h | with_reducible exact andl (andl h) | (simp only [h, Bool.and_self]; done) | (simp [h]; done) | (simp_all; done)))))))
      | (refine KO.box rfl rfl rfl rfl rfl rfl ?_; intro _ _)
      | (refine KW.cond rfl ?_ ?_ <;> (intro hc; try simp only [Bool.or_eq_false_iff, Bool.or_eq_true, Bool.and_eq_true, Bool.and_eq_false_iff, Bool.not_eq_true', Bool.not_eq_false', Bool.not_eq_true, Bool.not_eq_false, decide_eq_true_eq, decide_eq_false_iff_not, Bool.not_not, beq_iff_eq, bne_iff_ne, Bool.beq_eq_decide_eq] at hc))
      | exact absurd trivial ‹¬True›
      | fail)
    refine KO.callE rfl rfl rfl rfl rfl rfl rfl rfl (rOf_p _ w h q k d l hk (by omega) hq hl) ?_
    rintro _ _ (⟨h1, _⟩ | ⟨_, _, rfl, rfl⟩ | ⟨_, h1, _⟩)
    · rw [hg] at h1; cases h1
    · skip
      repeat' (first
        | refine KW.seq ?_
        | refine KW.region ?_
        | refine KO.nil ?_
        | refine At.then_normal ?_
        | refine KW.skip ?_
        | refine KW.ret ?_
        | refine At.then_ret ?_
        | refine KW.block ?_
        | refine KW.exit ?_
        | refine At.block_normal ?_
        | refine At.block_ret ?_
        | refine At.loop_ret ?_
        | refine At.then_exit ?_
        | refine At.block_here rfl ?_
        | refine At.block_there rfl ?_
        | refine At.loop_exit ?_
        | refine At.cut_ret ?_
        | refine At.cutA_ret ?_
        | refine At.cutA_exit ?_
        | refine At.cut_exit ?_
        | (refine At.cut_same ?_; repeat' (first | exact FLe.nil _ | refine FLe.cons rfl rfl ?_))
        | refine KW.cond_t rfl (by first | with_reducible rfl | decide) ?_
        | refine KW.cond_f rfl (by first | with_reducible rfl | decide) ?_
        | refine KW.scope ?_
        | refine KW.label ?_
        | refine At.scope_normal ?_
        | refine At.scope_ret ?_
        | refine At.scope_exit ?_
        | refine KW.draw 0 (by decide +kernel) ?_
        | refine KW.drawU rfl (by decide +kernel) ?_
        | refine KD.zero ?_
        | refine KD.skip' rfl (by first | with_reducible rfl | decide) rfl rfl ?_
        | refine KO.skip' rfl (by first | with_reducible rfl | decide) rfl rfl ?_
        | refine KO.skip0' rfl (by first | with_reducible rfl | decide) rfl ?_
        | refine KO.skipIn rfl (by first | with_reducible rfl | decide) rfl rfl ?_
        | refine KD.skipIn rfl (by first | with_reducible rfl | decide) rfl rfl ?_
        | ((first | apply KO.val rfl rfl rfl ?kq ?_ | apply KO.valIn rfl rfl rfl ?kq ?_ | apply KD.val rfl rfl rfl ?kq ?_ | apply KD.valIn rfl rfl rfl ?kq ?_); (case kq => ((first | apply qt_ev rfl ?hi | ((first | apply qt_load1 rfl rfl ?hi rfl rfl ?hm ?hc | apply qt_loadN rfl rfl ?hi rfl rfl rfl ?hm ?hc); (case hm => repeat (first | exact List.Mem.head _ | apply List.Mem.tail _ | apply List.mem_append_right _)); (case hc => rfl)) | refine qt_callQ rfl rfl ?hi (fun hg => Tr.quiet hawk) | apply qt_pick_t rfl rfl (by first | with_reducible rfl | decide) rfl ?hi | apply qt_pick_f rfl rfl (by first | with_reducible rfl | decide) rfl ?hi | ((first | apply qt_pick_and rfl rfl rfl ?hi ?pj | apply qt_pick_or rfl rfl rfl ?hi ?pj); (case pj => (intro h h2; first | with_reducible exact h2 | with_reducible exact andi h h2 | (rw [h2]; rfl) | (rw [h, h2]; rfl) | with_reducible rfl | (simp [h2]; done) | (simp_all; done)))) | apply qt_cap rfl rfl ?hi rfl | apply qt_eqs rfl rfl rfl ?hi rfl (Or.inl rfl) | apply qt_nes rfl rfl rfl ?hi rfl (Or.inl rfl)); (case hi => (intro h; (repeat' (first | with_reducible exact alln | with_reducible refine allc ?_ ?_ | with_reducible refine andi ?_ ?_)); all_goals (first | with_reducible rfl | with_reducible exact h | with_reducible exact andl h | with_reducible exact andr h | with_reducible exact andl (andl h) | (simp only [h, Bool.and_self]; done) | (simp [h]; done) | (simp_all; done)))))))
        | (refine KO.box rfl rfl rfl rfl rfl rfl ?_; intro _ _)
        | (refine KW.cond rfl ?_ ?_ <;> (intro hc; try simp only [Bool.or_eq_false_iff, Bool.or_eq_true, Bool.and_eq_true, Bool.and_eq_false_iff, Bool.not_eq_true', Bool.not_eq_false', Bool.not_eq_true, Bool.not_eq_false, decide_eq_true_eq, decide_eq_false_iff_not, Bool.not_not, beq_iff_eq, bne_iff_ne, Bool.beq_eq_decide_eq] at hc))
        | exact absurd trivial ‹¬True›
        | fail)
      ((first | apply At.done_ret | apply At.done_normal); (focus (repeat' (first | exact ResVs.nil' | apply ResVs.cons' | exact ResV.tmp' rfl | (apply ResV.cell1 rfl ?hm rfl rfl ?hc; (case hm => repeat (first | exact List.Mem.head _ | apply List.Mem.tail _ | apply List.mem_append_right _)); (case hc => rfl)) | (apply ResV.cellN rfl ?hm rfl rfl rfl ?hc; (case hm => repeat (first | exact List.Mem.head _ | apply List.Mem.tail _ | apply List.mem_append_right _)); (case hc => rfl))))); dsimp only [resVal])
    · exact absurd h1 ho
  · skip
    repeat' (first
      | refine KW.seq ?_
      | refine KW.region ?_
      | refine KO.nil ?_
      | refine At.then_normal ?_
      | refine KW.skip ?_
      | refine KW.ret ?_
      | refine At.then_ret ?_
      | refine KW.block ?_
      | refine KW.exit ?_
      | refine At.block_normal ?_
      | refine At.block_ret ?_
      | refine At.loop_ret ?_
      | refine At.then_exit ?_
      | refine At.block_here rfl ?_
      | refine At.block_there rfl ?_
      | refine At.loop_exit ?_
      | refine At.cut_ret ?_
      | refine At.cutA_ret ?_
      | refine At.cutA_exit ?_
      | refine At.cut_exit ?_
      | (refine At.cut_same ?_; repeat' (first | exact FLe.nil _ | refine FLe.cons rfl rfl ?_))
      | refine KW.cond_t rfl (by first | with_reducible rfl | decide) ?_
      | refine KW.cond_f rfl (by first | with_reducible rfl | decide) ?_
      | refine KW.scope ?_
      | refine KW.label ?_
      | refine At.scope_normal ?_
      | refine At.scope_ret ?_
      | refine At.scope_exit ?_
      | refine KW.draw 0 (by decide +kernel) ?_
      | refine KW.drawU rfl (by decide +kernel) ?_
      | refine KD.zero ?_
      | refine KD.skip' rfl (by first | with_reducible rfl | decide) rfl rfl ?_
      | refine KO.skip' rfl (by first | with_reducible rfl | decide) rfl rfl ?_
      | refine KO.skip0' rfl (by first | with_reducible rfl | decide) rfl ?_
      | refine KO.skipIn rfl (by first | with_reducible rfl | decide) rfl rfl ?_
      | refine KD.skipIn rfl (by first | with_reducible rfl | decide) rfl rfl ?_
      | ((first | apply KO.val rfl rfl rfl ?kq ?_ | apply KO.valIn rfl rfl rfl ?kq ?_ | apply KD.val rfl rfl rfl ?kq ?_ | apply KD.valIn rfl rfl rfl ?kq ?_); (case kq => ((first | apply qt_ev rfl ?hi | ((first | apply qt_load1 rfl rfl ?hi rfl rfl ?hm ?hc | apply qt_loadN rfl rfl ?hi rfl rfl rfl ?hm ?hc); (case hm => repeat (first | exact List.Mem.head _ | apply List.Mem.tail _ | apply List.mem_append_right _)); (case hc => rfl)) | apply qt_pick_t rfl rfl (by first | with_reducible rfl | decide) rfl ?hi | apply qt_pick_f rfl rfl (by first | with_reducible rfl | decide) rfl ?hi | ((first | apply qt_pick_and rfl rfl rfl ?hi ?pj | apply qt_pick_or rfl rfl rfl ?hi ?pj); (case pj => (intro h h2; first | with_reducible exact h2 | with_reducible exact andi h h2 | (rw [h2]; rfl) | (rw [h, h2]; rfl) | with_reducible rfl | (simp [h2]; done) | (simp_all; done)))) | apply qt_cap rfl rfl ?hi rfl | apply qt_eqs rfl rfl rfl ?hi rfl (Or.inl rfl) | apply qt_nes rfl rfl rfl ?hi rfl (Or.inl rfl)); (case hi => (intro h; (repeat' (first | with_reducible exact alln | with_reducible refine allc ?_ ?_ | with_reducible refine andi ?_ ?_)); all_goals (first | with_reducible rfl | with_reducible exact h | with_reducible exact andl h | with_reducible exact andr h | with_reducible exact andl (andl h) | (simp only [h, Bool.and_self]; done) | (simp [h]; done) | (simp_all; done)))))))
      | (refine KO.box rfl rfl rfl rfl rfl rfl ?_; intro _ _)
      | (refine KW.cond rfl ?_ ?_ <;> (intro hc; try simp only [Bool.or_eq_false_iff, Bool.or_eq_true, Bool.and_eq_true, Bool.and_eq_false_iff, Bool.not_eq_true', Bool.not_eq_false', Bool.not_eq_true, Bool.not_eq_false, decide_eq_true_eq, decide_eq_false_iff_not, Bool.not_not, beq_iff_eq, bne_iff_ne, Bool.beq_eq_decide_eq] at hc))
      | exact absurd trivial ‹¬True›
      | fail)
    refine KO.callE rfl rfl rfl rfl rfl rfl rfl rfl (rOf_p _ w h q k d l hk (by omega) hq hl) ?_
    rintro _ _ (⟨h1, _⟩ | ⟨_, h1, _⟩ | ⟨_, _, br, bx, rfl, rfl⟩)
    · rw [hg] at h1; cases h1
    · exact absurd ho h1
    obtain ⟨n1, n2, n3, n7, n8, n9, n10, n4, n5, n6⟩ := nwO_bd hg
    obtain ⟨n, hn⟩ : ∃ n : Nat, (n : Int) = w * h := ⟨(w * h).toNat, by omega⟩
    rw [show (w * h).toNat = n by omega] at ho ⊢
    have hfp := ho.past
    have hbl := ho.len
    generalize hf : bitB l = f at *
    have hce : cntB f (64 * nwO w h) = cntB f n := by rw [show 64 * nwO w h = n + (64 * nwO w h - n) by omega]; exact cntB_past hfp _
    have hle : celL w f (64 * nwO w h) = celL w f n := celL_pst hfp (by omega)
    have hlen := celL_len w f n
    have hcl := cntB_le f n
    have h576 : n ≤ 576 := by
      rw [hg] at hsm
      have h2 : w ≤ 24 ∧ h ≤ 24 := hsm.1.resolve_left (by simp)
      have h1 := Int.mul_le_mul h2.1 h2.2 (by omega) (by omega)
      omega
    have hsz := fun (σ : Heap) (hs : ∀ q ∈ maskC bm bw (nwO w h) w h f, q ∈ σ) => Size_p E.β σ w h (nwO w h) bm bw f (MaskR.of hs)
    repeat' (first
      | refine KW.seq ?_
      | refine KW.region ?_
      | refine KO.nil ?_
      | refine At.then_normal ?_
      | refine KW.skip ?_
      | refine KW.ret ?_
      | refine At.then_ret ?_
      | refine KW.block ?_
      | refine KW.exit ?_
      | refine At.block_normal ?_
      | refine At.block_ret ?_
      | refine At.loop_ret ?_
      | refine At.then_exit ?_
      | refine At.block_here rfl ?_
      | refine At.block_there rfl ?_
      | refine At.loop_exit ?_
      | refine At.cut_ret ?_
      | refine At.cutA_ret ?_
      | refine At.cutA_exit ?_
      | refine At.cut_exit ?_
      | (refine At.cut_same ?_; repeat' (first | exact FLe.nil _ | refine FLe.cons rfl rfl ?_))
      | refine KW.cond_t rfl (by first | with_reducible rfl | decide) ?_
      | refine KW.cond_f rfl (by first | with_reducible rfl | decide) ?_
      | refine KW.scope ?_
      | refine KW.label ?_
      | refine At.scope_normal ?_
      | refine At.scope_ret ?_
      | refine At.scope_exit ?_
      | refine KW.stretch (id := 9) ?_
      | refine KA.mid 0 12 [0, 0, 0, 0, 0, 0, 2, 0, 2, 2, 2, 2] [] (by decide +kernel) rfl rfl rfl rfl ?_
      | refine KA.mid 12 21 [0, 2, 0, 2, 2, 2, 2, 2, 2] [] (by decide +kernel) rfl rfl rfl rfl ?_
      | refine KA.tail (t := 21) (by decide +kernel) rfl ?_
      | refine KDH.mid2 ?_
      | refine KDH.mid3 ?_
      | refine KDH.done ?_
      | refine KDM.head0 ?_
      | refine KDM.head1 ?_
      | refine KDM.fin ?_
      | refine KDH.skip0' rfl (by first | with_reducible rfl | decide) rfl rfl ?_
      | refine KDH.skip1' rfl (by first | with_reducible rfl | decide) rfl rfl ?_
      | ((first | refine KDM.eo2f rfl rfl rfl (eo_alloc rfl rfl rfl) ?_ | refine KDM.eo2t rfl rfl rfl (eo_alloc rfl rfl rfl) ?_); rintro _ _ ⟨_, _, rfl, rfl⟩; refine ⟨?sub, ?_⟩; (case sub => (intro _ hp; first | exact hp | (cases hp; done) | (repeat (first | exact hp | apply List.mem_cons_of_mem | apply List.mem_append_right)) | (simp_all; done))))
      | ((first | refine KDM.eo2f rfl rfl rfl (eo_box rfl rfl rfl) ?_ | refine KDM.eo2t rfl rfl rfl (eo_box rfl rfl rfl) ?_); rintro _ _ ⟨_, _, rfl, rfl⟩; refine ⟨?sub, ?_⟩; (case sub => (intro _ hp; first | exact hp | (cases hp; done) | (repeat (first | exact hp | apply List.mem_cons_of_mem | apply List.mem_append_right)) | (simp_all; done))))
      | ((first | refine KDM.eo2f rfl rfl rfl (eo_buildSlice rfl rfl rfl rfl rfl rfl rfl rfl rfl rfl rfl) ?_ | refine KDM.eo2t rfl rfl rfl (eo_buildSlice rfl rfl rfl rfl rfl rfl rfl rfl rfl rfl rfl) ?_); rintro _ _ ⟨_, _, rfl, rfl⟩; refine ⟨?sub, ?_⟩; (case sub => (intro _ hp; first | exact hp | (cases hp; done) | (repeat (first | exact hp | apply List.mem_cons_of_mem | apply List.mem_append_right)) | (simp_all; done))))
      | ((first | refine KDM.eo30 rfl rfl (eo_store (i := 0) rfl rfl rfl rfl rfl rfl rfl rfl rfl rfl rfl) ?_ | refine KDM.eo30 rfl rfl (eo_store (i := 1) rfl rfl rfl rfl rfl rfl rfl rfl rfl rfl rfl) ?_ | refine KDM.eo30 rfl rfl (eo_store (i := 2) rfl rfl rfl rfl rfl rfl rfl rfl rfl rfl rfl) ?_ | refine KDM.eo30 rfl rfl (eo_store (i := 3) rfl rfl rfl rfl rfl rfl rfl rfl rfl rfl rfl) ?_ | refine KDM.eo30 rfl rfl (eo_store (i := 4) rfl rfl rfl rfl rfl rfl rfl rfl rfl rfl rfl) ?_ | refine KDM.eo30 rfl rfl (eo_store (i := 5) rfl rfl rfl rfl rfl rfl rfl rfl rfl rfl rfl) ?_ | refine KDM.eo30 rfl rfl (eo_store (i := 6) rfl rfl rfl rfl rfl rfl rfl rfl rfl rfl rfl) ?_ | refine KDM.eo30 rfl rfl (eo_store (i := 7) rfl rfl rfl rfl rfl rfl rfl rfl rfl rfl rfl) ?_); rintro _ _ rfl; refine ⟨?sub, ?_⟩; (case sub => (intro _ hp; first | exact hp | (cases hp; done) | (repeat (first | exact hp | apply List.mem_cons_of_mem | apply List.mem_append_right)) | (simp_all; done))))
      | refine KW.draw 0 (by decide +kernel) ?_
      | refine KW.drawU rfl (by decide +kernel) ?_
      | refine KD.zero ?_
      | refine KD.skip' rfl (by first | with_reducible rfl | decide) rfl rfl ?_
      | refine KO.skip' rfl (by first | with_reducible rfl | decide) rfl rfl ?_
      | refine KO.skip0' rfl (by first | with_reducible rfl | decide) rfl ?_
      | refine KO.skipIn rfl (by first | with_reducible rfl | decide) rfl rfl ?_
      | refine KD.skipIn rfl (by first | with_reducible rfl | decide) rfl rfl ?_
      | ((first | apply KO.val rfl rfl rfl ?kq ?_ | apply KO.valIn rfl rfl rfl ?kq ?_ | apply KD.val rfl rfl rfl ?kq ?_ | apply KD.valIn rfl rfl rfl ?kq ?_ | apply KDH.val0 rfl rfl rfl ?kq ?_ | apply KDH.val1 rfl rfl rfl ?kq ?_ | apply KDH.valIn0 rfl rfl rfl ?kq ?_ | apply KDH.valIn1 rfl rfl rfl ?kq ?_ | apply KDM.q2f rfl rfl rfl ?kq ?ksub ?_ | apply KDM.q2t rfl rfl rfl ?kq ?ksub ?_); (try (case ksub => (intro _ hp; first | exact hp | (cases hp; done) | (repeat (first | exact hp | apply List.mem_cons_of_mem | apply List.mem_append_right)) | (simp_all; done)))); (case kq => ((first | apply qt_ev rfl ?hi | ((first | apply qt_load1 rfl rfl ?hi rfl rfl ?hm ?hc | apply qt_loadN rfl rfl ?hi rfl rfl rfl ?hm ?hc); (case hm => repeat (first | exact List.Mem.head _ | apply List.Mem.tail _ | apply List.mem_append_right _)); (case hc => rfl)) | refine qt_callQ rfl rfl ?hi (fun hg => hsz _ (by intro q hq; simp [hq])) | apply qt_pick_t rfl rfl (by first | with_reducible rfl | decide) rfl ?hi | apply qt_pick_f rfl rfl (by first | with_reducible rfl | decide) rfl ?hi | ((first | apply qt_pick_and rfl rfl rfl ?hi ?pj | apply qt_pick_or rfl rfl rfl ?hi ?pj); (case pj => (intro h h2; first | with_reducible exact h2 | with_reducible exact andi h h2 | (rw [h2]; rfl) | (rw [h, h2]; rfl) | with_reducible rfl | (simp [h2]; done) | (simp_all; done)))) | apply qt_cap rfl rfl ?hi rfl | apply qt_eqs rfl rfl rfl ?hi rfl (Or.inl rfl) | apply qt_nes rfl rfl rfl ?hi rfl (Or.inl rfl)); (case hi => (intro h; (repeat' (first | with_reducible exact alln | with_reducible refine allc ?_ ?_ | with_reducible refine andi ?_ ?_)); all_goals (first | with_reducible rfl | with_reducible exact h | with_reducible exact andl h | with_reducible exact andr h | with_reducible exact andl (andl h) | (simp only [h, Bool.and_self]; done) | (simp [h]; done) | (simp_all; done)))))))
      | (refine KO.box rfl rfl rfl rfl rfl rfl ?_; intro _ _)
      | (refine KW.cond rfl ?_ ?_ <;> (intro hc; try simp only [Bool.or_eq_false_iff, Bool.or_eq_true, Bool.and_eq_true, Bool.and_eq_false_iff, Bool.not_eq_true', Bool.not_eq_false', Bool.not_eq_true, Bool.not_eq_false, decide_eq_true_eq, decide_eq_false_iff_not, Bool.not_not, beq_iff_eq, bne_iff_ne, Bool.beq_eq_decide_eq] at hc))
      | exact absurd trivial ‹¬True›
      | fail)
    · rw [show (decide (w = w) && decide (h = h)) = true by simp]
      refine KDM.eo2f rfl rfl rfl (eo_callB [] (rmC br bx n w h f ++ (maskC bm bw (nwO w h) w h f ++ [(b2, cl [.int .i64 w, .int .i64 h] 23)])) (by classical exact List.perm_iff_count.2 (fun _ => by first | (simp only [List.count_append, List.count_cons, List.count_nil, List.append_assoc, List.cons_append, List.nil_append]; done) | (simp only [List.count_append, List.count_cons, List.count_nil, List.append_assoc, List.cons_append, List.nil_append]; omega))) rfl rfl rfl rfl (fun β' g1 g2 => cells_p β' w h (nwO w h) f bm bw (MaskR.frz g1 g2 (MaskR.of (by intro r hr; simp [hr]))) (Tab8.up g1 ht) (by omega) (by omega) (by omega))) ?_
      rintro z _ ⟨φ2, hz2, rfl⟩
      refine ⟨fun r hr => by simpa using Or.inr (by simpa using hr), ?_⟩
      obtain ⟨p2, c2, rfl⟩ := hz2.len
      obtain ⟨L, hL⟩ : ∃ L, L = celL w f n := ⟨_, rfl⟩
      obtain ⟨S, hS⟩ : ∃ S, S = cntB f n := ⟨_, rfl⟩
      rw [← hL] at hlen hle
      rw [← hS] at hlen hcl hce
      rw [hle, hce] at hz2
      rw [hce]
      repeat' (first
        | refine KW.seq ?_
        | refine KW.region ?_
        | refine KO.nil ?_
        | refine At.then_normal ?_
        | refine KW.skip ?_
        | refine KW.ret ?_
        | refine At.then_ret ?_
        | refine KW.block ?_
        | refine KW.exit ?_
        | refine At.block_normal ?_
        | refine At.block_ret ?_
        | refine At.loop_ret ?_
        | refine At.then_exit ?_
        | refine At.block_here rfl ?_
        | refine At.block_there rfl ?_
        | refine At.loop_exit ?_
        | refine At.cut_ret ?_
        | refine At.cutA_ret ?_
        | refine At.cutA_exit ?_
        | refine At.cut_exit ?_
        | (refine At.cut_same ?_; repeat' (first | exact FLe.nil _ | refine FLe.cons rfl rfl ?_))
        | refine KW.cond_t rfl (by first | with_reducible rfl | decide) ?_
        | refine KW.cond_f rfl (by first | with_reducible rfl | decide) ?_
        | refine KW.scope ?_
        | refine KW.label ?_
        | refine At.scope_normal ?_
        | refine At.scope_ret ?_
        | refine At.scope_exit ?_
        | refine KW.stretch (id := 9) ?_
        | refine KA.mid 0 12 [0, 0, 0, 0, 0, 0, 2, 0, 2, 2, 2, 2] [] (by decide +kernel) rfl rfl rfl rfl ?_
        | refine KA.mid 12 21 [0, 2, 0, 2, 2, 2, 2, 2, 2] [] (by decide +kernel) rfl rfl rfl rfl ?_
        | refine KA.tail (t := 21) (by decide +kernel) rfl ?_
        | refine KDH.mid2 ?_
        | refine KDH.mid3 ?_
        | refine KDH.done ?_
        | refine KDM.head0 ?_
        | refine KDM.head1 ?_
        | refine KDM.fin ?_
        | refine KDH.skip0' rfl (by first | with_reducible rfl | decide) rfl rfl ?_
        | refine KDH.skip1' rfl (by first | with_reducible rfl | decide) rfl rfl ?_
        | ((first | refine KDM.eo2f rfl rfl rfl (eo_alloc rfl rfl rfl) ?_ | refine KDM.eo2t rfl rfl rfl (eo_alloc rfl rfl rfl) ?_); rintro _ _ ⟨_, _, rfl, rfl⟩; refine ⟨?sub, ?_⟩; (case sub => (intro _ hp; first | exact hp | (cases hp; done) | (repeat (first | exact hp | apply List.mem_cons_of_mem | apply List.mem_append_right)) | (simp_all; done))))
        | ((first | refine KDM.eo2f rfl rfl rfl (eo_box rfl rfl rfl) ?_ | refine KDM.eo2t rfl rfl rfl (eo_box rfl rfl rfl) ?_); rintro _ _ ⟨_, _, rfl, rfl⟩; refine ⟨?sub, ?_⟩; (case sub => (intro _ hp; first | exact hp | (cases hp; done) | (repeat (first | exact hp | apply List.mem_cons_of_mem | apply List.mem_append_right)) | (simp_all; done))))
        | ((first | refine KDM.eo2f rfl rfl rfl (eo_buildSlice rfl rfl rfl rfl rfl rfl rfl rfl rfl rfl rfl) ?_ | refine KDM.eo2t rfl rfl rfl (eo_buildSlice rfl rfl rfl rfl rfl rfl rfl rfl rfl rfl rfl) ?_); rintro _ _ ⟨_, _, rfl, rfl⟩; refine ⟨?sub, ?_⟩; (case sub => (intro _ hp; first | exact hp | (cases hp; done) | (repeat (first | exact hp | apply List.mem_cons_of_mem | apply List.mem_append_right)) | (simp_all; done))))
        | ((first | refine KDM.eo30 rfl rfl (eo_store (i := 0) rfl rfl rfl rfl rfl rfl rfl rfl rfl rfl rfl) ?_ | refine KDM.eo30 rfl rfl (eo_store (i := 1) rfl rfl rfl rfl rfl rfl rfl rfl rfl rfl rfl) ?_ | refine KDM.eo30 rfl rfl (eo_store (i := 2) rfl rfl rfl rfl rfl rfl rfl rfl rfl rfl rfl) ?_ | refine KDM.eo30 rfl rfl (eo_store (i := 3) rfl rfl rfl rfl rfl rfl rfl rfl rfl rfl rfl) ?_ | refine KDM.eo30 rfl rfl (eo_store (i := 4) rfl rfl rfl rfl rfl rfl rfl rfl rfl rfl rfl) ?_ | refine KDM.eo30 rfl rfl (eo_store (i := 5) rfl rfl rfl rfl rfl rfl rfl rfl rfl rfl rfl) ?_ | refine KDM.eo30 rfl rfl (eo_store (i := 6) rfl rfl rfl rfl rfl rfl rfl rfl rfl rfl rfl) ?_ | refine KDM.eo30 rfl rfl (eo_store (i := 7) rfl rfl rfl rfl rfl rfl rfl rfl rfl rfl rfl) ?_); rintro _ _ rfl; refine ⟨?sub, ?_⟩; (case sub => (intro _ hp; first | exact hp | (cases hp; done) | (repeat (first | exact hp | apply List.mem_cons_of_mem | apply List.mem_append_right)) | (simp_all; done))))
        | refine KW.draw 0 (by decide +kernel) ?_
        | refine KW.drawU rfl (by decide +kernel) ?_
        | refine KD.zero ?_
        | refine KD.skip' rfl (by first | with_reducible rfl | decide) rfl rfl ?_
        | refine KO.skip' rfl (by first | with_reducible rfl | decide) rfl rfl ?_
        | refine KO.skip0' rfl (by first | with_reducible rfl | decide) rfl ?_
        | refine KO.skipIn rfl (by first | with_reducible rfl | decide) rfl rfl ?_
        | refine KD.skipIn rfl (by first | with_reducible rfl | decide) rfl rfl ?_
        | ((first | apply KO.val rfl rfl rfl ?kq ?_ | apply KO.valIn rfl rfl rfl ?kq ?_ | apply KD.val rfl rfl rfl ?kq ?_ | apply KD.valIn rfl rfl rfl ?kq ?_ | apply KDH.val0 rfl rfl rfl ?kq ?_ | apply KDH.val1 rfl rfl rfl ?kq ?_ | apply KDH.valIn0 rfl rfl rfl ?kq ?_ | apply KDH.valIn1 rfl rfl rfl ?kq ?_ | apply KDM.q2f rfl rfl rfl ?kq ?ksub ?_ | apply KDM.q2t rfl rfl rfl ?kq ?ksub ?_); (try (case ksub => (intro _ hp; first | exact hp | (cases hp; done) | (repeat (first | exact hp | apply List.mem_cons_of_mem | apply List.mem_append_right)) | (simp_all; done)))); (case kq => ((first | apply qt_ev rfl ?hi | ((first | apply qt_load1 rfl rfl ?hi rfl rfl ?hm ?hc | apply qt_loadN rfl rfl ?hi rfl rfl rfl ?hm ?hc); (case hm => repeat (first | exact List.Mem.head _ | apply List.Mem.tail _ | apply List.mem_append_right _)); (case hc => rfl)) | apply qt_pick_t rfl rfl (by first | with_reducible rfl | decide) rfl ?hi | apply qt_pick_f rfl rfl (by first | with_reducible rfl | decide) rfl ?hi | ((first | apply qt_pick_and rfl rfl rfl ?hi ?pj | apply qt_pick_or rfl rfl rfl ?hi ?pj); (case pj => (intro h h2; first | with_reducible exact h2 | with_reducible exact andi h h2 | (rw [h2]; rfl) | (rw [h, h2]; rfl) | with_reducible rfl | (simp [h2]; done) | (simp_all; done)))) | apply qt_cap rfl rfl ?hi rfl | apply qt_eqs rfl rfl rfl ?hi rfl (Or.inl rfl) | apply qt_nes rfl rfl rfl ?hi rfl (Or.inl rfl)); (case hi => (intro h; (repeat' (first | with_reducible exact alln | with_reducible refine allc ?_ ?_ | with_reducible refine andi ?_ ?_)); all_goals (first | with_reducible rfl | with_reducible exact h | with_reducible exact andl h | with_reducible exact andr h | with_reducible exact andl (andl h) | (simp only [h, Bool.and_self]; done) | (simp [h]; done) | (simp_all; done)))))))
        | (refine KO.box rfl rfl rfl rfl rfl rfl ?_; intro _ _)
        | (refine KW.cond rfl ?_ ?_ <;> (intro hc; try simp only [Bool.or_eq_false_iff, Bool.or_eq_true, Bool.and_eq_true, Bool.and_eq_false_iff, Bool.not_eq_true', Bool.not_eq_false', Bool.not_eq_true, Bool.not_eq_false, decide_eq_true_eq, decide_eq_false_iff_not, Bool.not_not, beq_iff_eq, bne_iff_ne, Bool.beq_eq_decide_eq] at hc))
        | exact absurd trivial ‹¬True›
        | fail)
      refine KDM.eo2f rfl rfl rfl (eo_callB [] (φ2 ++ (rmC br bx n w h f ++ (maskC bm bw (nwO w h) w h f ++ [(b2, cl [.int .i64 w, .int .i64 h] 23)]))) (by classical exact List.perm_iff_count.2 (fun _ => by first | (simp only [List.count_append, List.count_cons, List.count_nil, List.append_assoc, List.cons_append, List.nil_append]; done) | (simp only [List.count_append, List.count_cons, List.count_nil, List.append_assoc, List.cons_append, List.nil_append]; omega))) rfl rfl rfl rfl (fun β' g1 g2 => rmCells_p β' w h n f br bx (RM.frz g1 g2 (RM.of (by intro r hr; simp [hr]))) (by omega) (by omega))) ?_
      rintro z _ ⟨φ, hz, rfl⟩
      refine ⟨fun r hr => by simpa using Or.inr (Or.inr (by simpa using hr)), ?_⟩
      obtain ⟨pz, cz, rfl⟩ := hz.len
      rw [← hL, ← hS] at hz
      rw [← hS]
      repeat' (first
        | refine KW.seq ?_
        | refine KW.region ?_
        | refine KO.nil ?_
        | refine At.then_normal ?_
        | refine KW.skip ?_
        | refine KW.ret ?_
        | refine At.then_ret ?_
        | refine KW.block ?_
        | refine KW.exit ?_
        | refine At.block_normal ?_
        | refine At.block_ret ?_
        | refine At.loop_ret ?_
        | refine At.then_exit ?_
        | refine At.block_here rfl ?_
        | refine At.block_there rfl ?_
        | refine At.loop_exit ?_
        | refine At.cut_ret ?_
        | refine At.cutA_ret ?_
        | refine At.cutA_exit ?_
        | refine At.cut_exit ?_
        | (refine At.cut_same ?_; repeat' (first | exact FLe.nil _ | refine FLe.cons rfl rfl ?_))
        | refine KW.cond_t rfl (by first | with_reducible rfl | decide) ?_
        | refine KW.cond_f rfl (by first | with_reducible rfl | decide) ?_
        | refine KW.scope ?_
        | refine KW.label ?_
        | refine At.scope_normal ?_
        | refine At.scope_ret ?_
        | refine At.scope_exit ?_
        | refine KW.stretch (id := 9) ?_
        | refine KA.mid 0 12 [0, 0, 0, 0, 0, 0, 2, 0, 2, 2, 2, 2] [] (by decide +kernel) rfl rfl rfl rfl ?_
        | refine KA.mid 12 21 [0, 2, 0, 2, 2, 2, 2, 2, 2] [] (by decide +kernel) rfl rfl rfl rfl ?_
        | refine KA.tail (t := 21) (by decide +kernel) rfl ?_
        | refine KDH.mid2 ?_
        | refine KDH.mid3 ?_
        | refine KDH.done ?_
        | refine KDM.head0 ?_
        | refine KDM.head1 ?_
        | refine KDM.fin ?_
        | refine KDH.skip0' rfl (by first | with_reducible rfl | decide) rfl rfl ?_
        | refine KDH.skip1' rfl (by first | with_reducible rfl | decide) rfl rfl ?_
        | ((first | refine KDM.eo2f rfl rfl rfl (eo_alloc rfl rfl rfl) ?_ | refine KDM.eo2t rfl rfl rfl (eo_alloc rfl rfl rfl) ?_); rintro _ _ ⟨_, _, rfl, rfl⟩; refine ⟨?sub, ?_⟩; (case sub => (intro _ hp; first | exact hp | (cases hp; done) | (repeat (first | exact hp | apply List.mem_cons_of_mem | apply List.mem_append_right)) | (simp_all; done))))
        | ((first | refine KDM.eo2f rfl rfl rfl (eo_box rfl rfl rfl) ?_ | refine KDM.eo2t rfl rfl rfl (eo_box rfl rfl rfl) ?_); rintro _ _ ⟨_, _, rfl, rfl⟩; refine ⟨?sub, ?_⟩; (case sub => (intro _ hp; first | exact hp | (cases hp; done) | (repeat (first | exact hp | apply List.mem_cons_of_mem | apply List.mem_append_right)) | (simp_all; done))))
        | ((first | refine KDM.eo2f rfl rfl rfl (eo_buildSlice rfl rfl rfl rfl rfl rfl rfl rfl rfl rfl rfl) ?_ | refine KDM.eo2t rfl rfl rfl (eo_buildSlice rfl rfl rfl rfl rfl rfl rfl rfl rfl rfl rfl) ?_); rintro _ _ ⟨_, _, rfl, rfl⟩; refine ⟨?sub, ?_⟩; (case sub => (intro _ hp; first | exact hp | (cases hp; done) | (repeat (first | exact hp | apply List.mem_cons_of_mem | apply List.mem_append_right)) | (simp_all; done))))
        | ((first | refine KDM.eo30 rfl rfl (eo_store (i := 0) rfl rfl rfl rfl rfl rfl rfl rfl rfl rfl rfl) ?_ | refine KDM.eo30 rfl rfl (eo_store (i := 1) rfl rfl rfl rfl rfl rfl rfl rfl rfl rfl rfl) ?_ | refine KDM.eo30 rfl rfl (eo_store (i := 2) rfl rfl rfl rfl rfl rfl rfl rfl rfl rfl rfl) ?_ | refine KDM.eo30 rfl rfl (eo_store (i := 3) rfl rfl rfl rfl rfl rfl rfl rfl rfl rfl rfl) ?_ | refine KDM.eo30 rfl rfl (eo_store (i := 4) rfl rfl rfl rfl rfl rfl rfl rfl rfl rfl rfl) ?_ | refine KDM.eo30 rfl rfl (eo_store (i := 5) rfl rfl rfl rfl rfl rfl rfl rfl rfl rfl rfl) ?_ | refine KDM.eo30 rfl rfl (eo_store (i := 6) rfl rfl rfl rfl rfl rfl rfl rfl rfl rfl rfl) ?_ | refine KDM.eo30 rfl rfl (eo_store (i := 7) rfl rfl rfl rfl rfl rfl rfl rfl rfl rfl rfl) ?_); rintro _ _ rfl; refine ⟨?sub, ?_⟩; (case sub => (intro _ hp; first | exact hp | (cases hp; done) | (repeat (first | exact hp | apply List.mem_cons_of_mem | apply List.mem_append_right)) | (simp_all; done))))
        | refine KW.draw 0 (by decide +kernel) ?_
        | refine KW.drawU rfl (by decide +kernel) ?_
        | refine KD.zero ?_
        | refine KD.skip' rfl (by first | with_reducible rfl | decide) rfl rfl ?_
        | refine KO.skip' rfl (by first | with_reducible rfl | decide) rfl rfl ?_
        | refine KO.skip0' rfl (by first | with_reducible rfl | decide) rfl ?_
        | refine KO.skipIn rfl (by first | with_reducible rfl | decide) rfl rfl ?_
        | refine KD.skipIn rfl (by first | with_reducible rfl | decide) rfl rfl ?_
        | ((first | apply KO.val rfl rfl rfl ?kq ?_ | apply KO.valIn rfl rfl rfl ?kq ?_ | apply KD.val rfl rfl rfl ?kq ?_ | apply KD.valIn rfl rfl rfl ?kq ?_ | apply KDH.val0 rfl rfl rfl ?kq ?_ | apply KDH.val1 rfl rfl rfl ?kq ?_ | apply KDH.valIn0 rfl rfl rfl ?kq ?_ | apply KDH.valIn1 rfl rfl rfl ?kq ?_ | apply KDM.q2f rfl rfl rfl ?kq ?ksub ?_ | apply KDM.q2t rfl rfl rfl ?kq ?ksub ?_); (try (case ksub => (intro _ hp; first | exact hp | (cases hp; done) | (repeat (first | exact hp | apply List.mem_cons_of_mem | apply List.mem_append_right)) | (simp_all; done)))); (case kq => ((first | apply qt_ev rfl ?hi | ((first | apply qt_load1 rfl rfl ?hi rfl rfl ?hm ?hc | apply qt_loadN rfl rfl ?hi rfl rfl rfl ?hm ?hc); (case hm => repeat (first | exact List.Mem.head _ | apply List.Mem.tail _ | apply List.mem_append_right _)); (case hc => rfl)) | refine qt_callQ rfl rfl ?hi (fun hg => same_t E.β _ L p2 pz c2 cz S S hlen hlen (SL.ofVec hz2 (by intro r hr; simp [hr])) (SL.ofVec hz (by intro r hr; simp [hr])) (by omega)) | apply qt_pick_t rfl rfl (by first | with_reducible rfl | decide) rfl ?hi | apply qt_pick_f rfl rfl (by first | with_reducible rfl | decide) rfl ?hi | ((first | apply qt_pick_and rfl rfl rfl ?hi ?pj | apply qt_pick_or rfl rfl rfl ?hi ?pj); (case pj => (intro h h2; first | with_reducible exact h2 | with_reducible exact andi h h2 | (rw [h2]; rfl) | (rw [h, h2]; rfl) | with_reducible rfl | (simp [h2]; done) | (simp_all; done)))) | apply qt_cap rfl rfl ?hi rfl | apply qt_eqs rfl rfl rfl ?hi rfl (Or.inl rfl) | apply qt_nes rfl rfl rfl ?hi rfl (Or.inl rfl)); (case hi => (intro h; (repeat' (first | with_reducible exact alln | with_reducible refine allc ?_ ?_ | with_reducible refine andi ?_ ?_)); all_goals (first | with_reducible rfl | with_reducible exact h | with_reducible exact andl h | with_reducible exact andr h | with_reducible exact andl (andl h) | (simp only [h, Bool.and_self]; done) | (simp [h]; done) | (simp_all; done)))))))
        | (refine KO.box rfl rfl rfl rfl rfl rfl ?_; intro _ _)
        | (refine KW.cond rfl ?_ ?_ <;> (intro hc; try simp only [Bool.or_eq_false_iff, Bool.or_eq_true, Bool.and_eq_true, Bool.and_eq_false_iff, Bool.not_eq_true', Bool.not_eq_false', Bool.not_eq_true, Bool.not_eq_false, decide_eq_true_eq, decide_eq_false_iff_not, Bool.not_not, beq_iff_eq, bne_iff_ne, Bool.beq_eq_decide_eq] at hc))
        | exact absurd trivial ‹¬True›
        | fail)
      have hk8 : ((w * h + 7) / 8).toNat = k := by omega
      refine KDM.eo2f rfl rfl rfl (eo_callB [] (φ ++ (φ2 ++ (rmC br bx n w h f ++ (maskC bm bw (nwO w h) w h f ++ [(b2, cl [.int .i64 w, .int .i64 h] 23)])))) (by classical exact List.perm_iff_count.2 (fun _ => by first | (simp only [List.count_append, List.count_cons, List.count_nil, List.append_assoc, List.cons_append, List.nil_append]; done) | (simp only [List.count_append, List.count_cons, List.count_nil, List.append_assoc, List.cons_append, List.nil_append]; omega))) rfl rfl rfl rfl (fun β' g1 g2 => mBytes_p β' w h (nwO w h) f bm bw (MaskR.frz g1 g2 (MaskR.of (by intro r hr; simp [hr]))) (Tab8.up g1 ht) hg rfl (fun i hi => hfp i (by omega)))) ?_
      rintro _ _ ⟨_, ⟨b8, rfl, rfl⟩, rfl⟩
      rw [hk8]
      have hbb : bytL f k = l := by rw [← hf, ← hk]; exact bytL_bitB hl
      rw [hbb]
      refine ⟨fun r hr => by simpa using Or.inr (by simpa using hr), ?_⟩
      repeat' (first
        | refine KW.seq ?_
        | refine KW.region ?_
        | refine KO.nil ?_
        | refine At.then_normal ?_
        | refine KW.skip ?_
        | refine KW.ret ?_
        | refine At.then_ret ?_
        | refine KW.block ?_
        | refine KW.exit ?_
        | refine At.block_normal ?_
        | refine At.block_ret ?_
        | refine At.loop_ret ?_
        | refine At.then_exit ?_
        | refine At.block_here rfl ?_
        | refine At.block_there rfl ?_
        | refine At.loop_exit ?_
        | refine At.cut_ret ?_
        | refine At.cutA_ret ?_
        | refine At.cutA_exit ?_
        | refine At.cut_exit ?_
        | (refine At.cut_same ?_; repeat' (first | exact FLe.nil _ | refine FLe.cons rfl rfl ?_))
        | refine KW.cond_t rfl (by first | with_reducible rfl | decide) ?_
        | refine KW.cond_f rfl (by first | with_reducible rfl | decide) ?_
        | refine KW.scope ?_
        | refine KW.label ?_
        | refine At.scope_normal ?_
        | refine At.scope_ret ?_
        | refine At.scope_exit ?_
        | refine KW.stretch (id := 9) ?_
        | refine KA.mid 0 12 [0, 0, 0, 0, 0, 0, 2, 0, 2, 2, 2, 2] [] (by decide +kernel) rfl rfl rfl rfl ?_
        | refine KA.mid 12 21 [0, 2, 0, 2, 2, 2, 2, 2, 2] [] (by decide +kernel) rfl rfl rfl rfl ?_
        | refine KA.tail (t := 21) (by decide +kernel) rfl ?_
        | refine KDH.mid2 ?_
        | refine KDH.mid3 ?_
        | refine KDH.done ?_
        | refine KDM.head0 ?_
        | refine KDM.head1 ?_
        | refine KDM.fin ?_
        | refine KDH.skip0' rfl (by first | with_reducible rfl | decide) rfl rfl ?_
        | refine KDH.skip1' rfl (by first | with_reducible rfl | decide) rfl rfl ?_
        | ((first | refine KDM.eo2f rfl rfl rfl (eo_alloc rfl rfl rfl) ?_ | refine KDM.eo2t rfl rfl rfl (eo_alloc rfl rfl rfl) ?_); rintro _ _ ⟨_, _, rfl, rfl⟩; refine ⟨?sub, ?_⟩; (case sub => (intro _ hp; first | exact hp | (cases hp; done) | (repeat (first | exact hp | apply List.mem_cons_of_mem | apply List.mem_append_right)) | (simp_all; done))))
        | ((first | refine KDM.eo2f rfl rfl rfl (eo_box rfl rfl rfl) ?_ | refine KDM.eo2t rfl rfl rfl (eo_box rfl rfl rfl) ?_); rintro _ _ ⟨_, _, rfl, rfl⟩; refine ⟨?sub, ?_⟩; (case sub => (intro _ hp; first | exact hp | (cases hp; done) | (repeat (first | exact hp | apply List.mem_cons_of_mem | apply List.mem_append_right)) | (simp_all; done))))
        | ((first | refine KDM.eo2f rfl rfl rfl (eo_buildSlice rfl rfl rfl rfl rfl rfl rfl rfl rfl rfl rfl) ?_ | refine KDM.eo2t rfl rfl rfl (eo_buildSlice rfl rfl rfl rfl rfl rfl rfl rfl rfl rfl rfl) ?_); rintro _ _ ⟨_, _, rfl, rfl⟩; refine ⟨?sub, ?_⟩; (case sub => (intro _ hp; first | exact hp | (cases hp; done) | (repeat (first | exact hp | apply List.mem_cons_of_mem | apply List.mem_append_right)) | (simp_all; done))))
        | ((first | refine KDM.eo30 rfl rfl (eo_store (i := 0) rfl rfl rfl rfl rfl rfl rfl rfl rfl rfl rfl) ?_ | refine KDM.eo30 rfl rfl (eo_store (i := 1) rfl rfl rfl rfl rfl rfl rfl rfl rfl rfl rfl) ?_ | refine KDM.eo30 rfl rfl (eo_store (i := 2) rfl rfl rfl rfl rfl rfl rfl rfl rfl rfl rfl) ?_ | refine KDM.eo30 rfl rfl (eo_store (i := 3) rfl rfl rfl rfl rfl rfl rfl rfl rfl rfl rfl) ?_ | refine KDM.eo30 rfl rfl (eo_store (i := 4) rfl rfl rfl rfl rfl rfl rfl rfl rfl rfl rfl) ?_ | refine KDM.eo30 rfl rfl (eo_store (i := 5) rfl rfl rfl rfl rfl rfl rfl rfl rfl rfl rfl) ?_ | refine KDM.eo30 rfl rfl (eo_store (i := 6) rfl rfl rfl rfl rfl rfl rfl rfl rfl rfl rfl) ?_ | refine KDM.eo30 rfl rfl (eo_store (i := 7) rfl rfl rfl rfl rfl rfl rfl rfl rfl rfl rfl) ?_); rintro _ _ rfl; refine ⟨?sub, ?_⟩; (case sub => (intro _ hp; first | exact hp | (cases hp; done) | (repeat (first | exact hp | apply List.mem_cons_of_mem | apply List.mem_append_right)) | (simp_all; done))))
        | refine KW.draw 0 (by decide +kernel) ?_
        | refine KW.drawU rfl (by decide +kernel) ?_
        | refine KD.zero ?_
        | refine KD.skip' rfl (by first | with_reducible rfl | decide) rfl rfl ?_
        | refine KO.skip' rfl (by first | with_reducible rfl | decide) rfl rfl ?_
        | refine KO.skip0' rfl (by first | with_reducible rfl | decide) rfl ?_
        | refine KO.skipIn rfl (by first | with_reducible rfl | decide) rfl rfl ?_
        | refine KD.skipIn rfl (by first | with_reducible rfl | decide) rfl rfl ?_
        | ((first | apply KO.val rfl rfl rfl ?kq ?_ | apply KO.valIn rfl rfl rfl ?kq ?_ | apply KD.val rfl rfl rfl ?kq ?_ | apply KD.valIn rfl rfl rfl ?kq ?_ | apply KDH.val0 rfl rfl rfl ?kq ?_ | apply KDH.val1 rfl rfl rfl ?kq ?_ | apply KDH.valIn0 rfl rfl rfl ?kq ?_ | apply KDH.valIn1 rfl rfl rfl ?kq ?_ | apply KDM.q2f rfl rfl rfl ?kq ?ksub ?_ | apply KDM.q2t rfl rfl rfl ?kq ?ksub ?_); (try (case ksub => (intro _ hp; first | exact hp | (cases hp; done) | (repeat (first | exact hp | apply List.mem_cons_of_mem | apply List.mem_append_right)) | (simp_all; done)))); (case kq => ((first | apply qt_ev rfl ?hi | ((first | apply qt_load1 rfl rfl ?hi rfl rfl ?hm ?hc | apply qt_loadN rfl rfl ?hi rfl rfl rfl ?hm ?hc); (case hm => repeat (first | exact List.Mem.head _ | apply List.Mem.tail _ | apply List.mem_append_right _)); (case hc => rfl)) | refine qt_callQ rfl rfl ?hi (fun hg => bytes_t E.β _ l _ _ k d k k hk hk (SL.ofBlk (b := b8) (e := 5) (by simp) (by rw [by8_len, Nat.mul_one]; exact hk)) (hq.mono (by intro r hr; simp at hr)) (by omega)) | refine qt_callQ rfl rfl ?hi (fun hg => Tr.quiet hawk) | apply qt_pick_t rfl rfl (by first | with_reducible rfl | decide) rfl ?hi | apply qt_pick_f rfl rfl (by first | with_reducible rfl | decide) rfl ?hi | ((first | apply qt_pick_and rfl rfl rfl ?hi ?pj | apply qt_pick_or rfl rfl rfl ?hi ?pj); (case pj => (intro h h2; first | with_reducible exact h2 | with_reducible exact andi h h2 | (rw [h2]; rfl) | (rw [h, h2]; rfl) | with_reducible rfl | (simp [h2]; done) | (simp_all; done)))) | apply qt_cap rfl rfl ?hi rfl | apply qt_eqs rfl rfl rfl ?hi rfl (Or.inl rfl) | apply qt_nes rfl rfl rfl ?hi rfl (Or.inl rfl)); (case hi => (intro h; (repeat' (first | with_reducible exact alln | with_reducible refine allc ?_ ?_ | with_reducible refine andi ?_ ?_)); all_goals (first | with_reducible rfl | with_reducible exact h | with_reducible exact andl h | with_reducible exact andr h | with_reducible exact andl (andl h) | (simp only [h, Bool.and_self]; done) | (simp [h]; done) | (simp_all; done)))))))
        | (refine KO.box rfl rfl rfl rfl rfl rfl ?_; intro _ _)
        | (refine KW.cond rfl ?_ ?_ <;> (intro hc; try simp only [Bool.or_eq_false_iff, Bool.or_eq_true, Bool.and_eq_true, Bool.and_eq_false_iff, Bool.not_eq_true', Bool.not_eq_false', Bool.not_eq_true, Bool.not_eq_false, decide_eq_true_eq, decide_eq_false_iff_not, Bool.not_not, beq_iff_eq, bne_iff_ne, Bool.beq_eq_decide_eq] at hc))
        | exact absurd trivial ‹¬True›
        | fail)
      ((first | apply At.done_ret | apply At.done_normal); (focus (repeat' (first | exact ResVs.nil' | apply ResVs.cons' | exact ResV.tmp' rfl | (apply ResV.cell1 rfl ?hm rfl rfl ?hc; (case hm => repeat (first | exact List.Mem.head _ | apply List.Mem.tail _ | apply List.mem_append_right _)); (case hc => rfl)) | (apply ResV.cellN rfl ?hm rfl rfl rfl ?hc; (case hm => repeat (first | exact List.Mem.head _ | apply List.Mem.tail _ | apply List.mem_append_right _)); (case hc => rfl))))); dsimp only [resVal])
end Go.Proofs.YthmiiamcmnciiaaDoor
