/- SightEnds: what is seen along a line is its beginning, up to the first wall. -/
import Derived.Test.YtkoimmfgbepgcaaCD
namespace Go.Proofs.Ytkoimmfgbepgcaa
open Go Go.K Go.ChangeShapes Go.WideShapes Go.ChangeAt Go.RowKit

set_option maxHeartbeats 8000000 in
theorem SightEnds_p (β : Nat → Option Obj) (w h x y u v : Int) (p : Option Addr) (m c : Nat) (cs : List Nat) (hf : FIn β p m c cs) : Go.K.PureB Try.prog 5 #[.agg #[.int .i64 w, .int .i64 h, .slice p m c], .agg #[.int .i64 x, .int .i64 y], .agg #[.int .i64 u, .int .i64 v]] β (.bool true) := by
  refine Tr.pureB ?_
  refine Tr.of_body Try.tt (args := [.agg #[.int .i64 w, .int .i64 h, .slice p m c], .agg #[.int .i64 x, .int .i64 y], .agg #[.int .i64 u, .int .i64 v]]) (fr := [(0, true, .agg #[.int .i64 w, .int .i64 h, .slice p m c]), (1, true, .agg #[.int .i64 x, .int .i64 y]), (2, true, .agg #[.int .i64 u, .int .i64 v])]) Try.func5 rfl (by decide) rfl Try.ntmps5 rfl rfl ?_
  intro E hE
  subst hE
  repeat' (first
    | refine KW.seq ?_
    | refine KW.region ?_
    | refine KO.nil ?_
    | refine At.then_normal ?_
    | refine KW.skip ?_
    | refine KW.ret ?_
    | refine At.then_ret ?_
    | refine KW.block ?_
    | refine KW.exit ?_
    | refine At.block_normal ?_
    | refine At.block_ret ?_
    | refine At.loop_ret ?_
    | refine At.then_exit ?_
    | refine At.block_here rfl ?_
    | refine At.block_there rfl ?_
    | refine At.loop_exit ?_
    | refine At.cut_ret ?_
    | refine At.cutA_ret ?_
    | refine At.cutA_exit ?_
    | refine At.cut_exit ?_
    | (refine At.cut_same ?_; repeat' (first | exact FLe.nil _ | refine FLe.cons rfl rfl ?_))
    | refine KW.cond_t rfl (by first | with_reducible rfl | decide) ?_
    | refine KW.cond_f rfl (by first | with_reducible rfl | decide) ?_
    | refine KW.draw 0 (by decide +kernel) ?_
    | refine KW.drawU rfl (by decide +kernel) ?_
    | refine KD.zero ?_
    | refine KD.skip' rfl (by first | with_reducible rfl | decide) rfl rfl ?_
    | refine KO.skip' rfl (by first | with_reducible rfl | decide) rfl rfl ?_
    | refine KO.skip0' rfl (by first | with_reducible rfl | decide) rfl ?_
    | refine KO.skipIn rfl (by first | with_reducible rfl | decide) rfl rfl ?_
    | refine KD.skipIn rfl (by first | with_reducible rfl | decide) rfl rfl ?_
    | ((first | apply KO.val rfl rfl rfl ?kq ?_ | apply KO.valIn rfl rfl rfl ?kq ?_ | apply KD.val rfl rfl rfl ?kq ?_ | apply KD.valIn rfl rfl rfl ?kq ?_); (case kq => ((first | ((first | apply qt_add rfl rfl rfl ?hi ?om | apply qt_sub rfl rfl rfl ?hi ?om | apply qt_mul rfl rfl rfl ?hi ?om | apply qt_remN rfl rfl rfl ?hi ?om | apply qt_quoN rfl rfl rfl ?hi ?om | apply qt_addU rfl rfl rfl ?hi ?om | apply qt_subU rfl rfl rfl ?hi ?om | apply qt_mulU rfl rfl rfl ?hi ?om | apply qt_quoU rfl rfl rfl ?hi ?om | apply qt_convI rfl rfl rfl rfl ?hi ?om | apply qt_convU rfl rfl rfl rfl ?hi ?om | apply qt_indexAddr_arr rfl rfl rfl ?hi rfl rfl ?om | apply qt_indexAddr_slice rfl rfl rfl ?hi rfl rfl ?om | apply qt_sliceL rfl rfl rfl ?hi rfl rfl ?om | apply qt_sliceH rfl rfl rfl ?hi rfl rfl ?om | apply qt_sliceLH rfl rfl rfl rfl ?hi rfl rfl ?om | apply qt_sliceLHM rfl rfl rfl rfl rfl ?hi rfl rfl ?om | apply qt_sliceHM rfl rfl rfl rfl ?hi rfl rfl ?om); (case om => (intro hg; first | omega | (simp only [Bool.or_eq_false_iff, Bool.or_eq_true, Bool.and_eq_true, Bool.and_eq_false_iff, Bool.not_eq_true', Bool.not_eq_false', Bool.not_eq_true, Bool.not_eq_false, decide_eq_true_eq, decide_eq_false_iff_not, Bool.not_not, beq_iff_eq, bne_iff_ne, Bool.beq_eq_decide_eq] at hg; omega)))) | apply qt_ev rfl ?hi | ((first | apply qt_load1 rfl rfl ?hi rfl rfl ?hm ?hc | apply qt_loadN rfl rfl ?hi rfl rfl rfl ?hm ?hc); (case hm => repeat (first | exact List.Mem.head _ | apply List.Mem.tail _ | apply List.mem_append_right _)); (case hc => rfl)) | refine qt_call rfl rfl ?hi (fun hg => Small_p _ _ _ _ _) | refine qt_call rfl rfl ?hi (fun hg => awake_p) | apply qt_pick_t rfl rfl (by first | with_reducible rfl | decide) rfl ?hi | apply qt_pick_f rfl rfl (by first | with_reducible rfl | decide) rfl ?hi | ((first | apply qt_pick_and rfl rfl rfl ?hi ?pj | apply qt_pick_or rfl rfl rfl ?hi ?pj); (case pj => (intro h h2; first | with_reducible exact h2 | with_reducible exact andi h h2 | (rw [h2]; rfl) | (rw [h, h2]; rfl) | with_reducible rfl | (simp [h2]; done) | (simp_all; done)))) | apply qt_build rfl rfl ?hi rfl | apply qt_eqs rfl rfl rfl ?hi rfl (Or.inl rfl) | apply qt_nes rfl rfl rfl ?hi rfl (Or.inl rfl) | ((first | apply qt_quoT rfl rfl rfl ?hi ?om); (case om => (intro hg; first | omega | (simp only [Bool.or_eq_false_iff, Bool.or_eq_true, Bool.and_eq_true, Bool.and_eq_false_iff, Bool.not_eq_true', Bool.not_eq_false', Bool.not_eq_true, Bool.not_eq_false, decide_eq_true_eq, decide_eq_false_iff_not, Bool.not_not, beq_iff_eq, bne_iff_ne, Bool.beq_eq_decide_eq] at hg; omega)))) | ((first | apply qt_rem rfl rfl rfl ?hi ?om | apply qt_quo rfl rfl rfl ?hi ?om | apply qt_shr rfl rfl rfl ?hi ?om | apply qt_shl rfl rfl rfl ?hi ?om); (case om => (intro hg; first | omega | (simp only [Bool.or_eq_false_iff, Bool.or_eq_true, Bool.and_eq_true, Bool.and_eq_false_iff, Bool.not_eq_true', Bool.not_eq_false', Bool.not_eq_true, Bool.not_eq_false, decide_eq_true_eq, decide_eq_false_iff_not, Bool.not_not, beq_iff_eq, bne_iff_ne, Bool.beq_eq_decide_eq] at hg; omega))))); (case hi => (intro h; (repeat' (first | with_reducible exact alln | with_reducible refine allc ?_ ?_ | with_reducible refine andi ?_ ?_)); all_goals (first | with_reducible rfl | with_reducible exact h | with_reducible exact andl h | with_reducible exact andr h | with_reducible exact andl (andl h) | (simp only [h, Bool.and_self]; done) | (simp [h]; done) | (simp_all; done)))))))
    | (refine KO.box rfl rfl rfl rfl rfl rfl ?_; intro _ _)
    | (refine KO.alloc rfl rfl rfl rfl rfl rfl ?_; intro _ _)
    | (refine KO.buildSlice rfl rfl rfl rfl rfl rfl rfl rfl rfl rfl rfl rfl rfl rfl ?_; intro _ _)
    | ((first | apply KO.store (i := 0) rfl rfl rfl rfl rfl rfl rfl rfl ?hl rfl ?hw ?ho ?hs | apply KO.store (i := 1) rfl rfl rfl rfl rfl rfl rfl rfl ?hl rfl ?hw ?ho ?hs | apply KO.store (i := 2) rfl rfl rfl rfl rfl rfl rfl rfl ?hl rfl ?hw ?ho ?hs | apply KO.store (i := 3) rfl rfl rfl rfl rfl rfl rfl rfl ?hl rfl ?hw ?ho ?hs | apply KO.store (i := 4) rfl rfl rfl rfl rfl rfl rfl rfl ?hl rfl ?hw ?ho ?hs | apply KO.store (i := 5) rfl rfl rfl rfl rfl rfl rfl rfl ?hl rfl ?hw ?ho ?hs | apply KO.store (i := 6) rfl rfl rfl rfl rfl rfl rfl rfl ?hl rfl ?hw ?ho ?hs | apply KO.store (i := 7) rfl rfl rfl rfl rfl rfl rfl rfl ?hl rfl ?hw ?ho ?hs); (case hl => rfl); (case hw => rfl); (case ho => rfl); (case hs => rfl))
    | (refine KW.cond rfl ?_ ?_ <;> (intro hc; try simp only [Bool.or_eq_false_iff, Bool.or_eq_true, Bool.and_eq_true, Bool.and_eq_false_iff, Bool.not_eq_true', Bool.not_eq_false', Bool.not_eq_true, Bool.not_eq_false, decide_eq_true_eq, decide_eq_false_iff_not, Bool.not_not, beq_iff_eq, bne_iff_ne, Bool.beq_eq_decide_eq] at hc))
    | exact absurd trivial ‹¬True›
    | fail)
  · ((first | apply At.done_ret | apply At.done_normal); (focus (repeat' (first | exact ResVs.nil' | apply ResVs.cons' | exact ResV.tmp' rfl | (apply ResV.cell1 rfl ?hm rfl rfl ?hc; (case hm => repeat (first | exact List.Mem.head _ | apply List.Mem.tail _ | apply List.mem_append_right _)); (case hc => rfl)) | (apply ResV.cellN rfl ?hm rfl rfl rfl ?hc; (case hm => repeat (first | exact List.Mem.head _ | apply List.Mem.tail _ | apply List.mem_append_right _)); (case hc => rfl))))); dsimp only [resVal])
  rename_i b3 _ b4 _ b5 _
  refine KO.callE rfl rfl rfl rfl rfl rfl rfl rfl (sWalk_p w h x y u v p m c cs _ hf.len hf.sl) ?_
  rintro _ φ (⟨he, rfl, rfl⟩ | ⟨he, z, rfl, hz⟩)
  · have htr := trivial
    repeat' (first
      | refine KW.seq ?_
      | refine KW.region ?_
      | refine KO.nil ?_
      | refine At.then_normal ?_
      | refine KW.skip ?_
      | refine KW.ret ?_
      | refine At.then_ret ?_
      | refine KW.block ?_
      | refine KW.exit ?_
      | refine At.block_normal ?_
      | refine At.block_ret ?_
      | refine At.loop_ret ?_
      | refine At.then_exit ?_
      | refine At.block_here rfl ?_
      | refine At.block_there rfl ?_
      | refine At.loop_exit ?_
      | refine At.cut_ret ?_
      | refine At.cutA_ret ?_
      | refine At.cutA_exit ?_
      | refine At.cut_exit ?_
      | (refine At.cut_same ?_; repeat' (first | exact FLe.nil _ | refine FLe.cons rfl rfl ?_))
      | refine KW.cond_t rfl (by first | with_reducible rfl | decide) ?_
      | refine KW.cond_f rfl (by first | with_reducible rfl | decide) ?_
      | refine KW.draw 0 (by decide +kernel) ?_
      | refine KW.drawU rfl (by decide +kernel) ?_
      | refine KD.zero ?_
      | refine KD.skip' rfl (by first | with_reducible rfl | decide) rfl rfl ?_
      | refine KO.skip' rfl (by first | with_reducible rfl | decide) rfl rfl ?_
      | refine KO.skip0' rfl (by first | with_reducible rfl | decide) rfl ?_
      | refine KO.skipIn rfl (by first | with_reducible rfl | decide) rfl rfl ?_
      | refine KD.skipIn rfl (by first | with_reducible rfl | decide) rfl rfl ?_
      | ((first | apply KO.val rfl rfl rfl ?kq ?_ | apply KO.valIn rfl rfl rfl ?kq ?_ | apply KD.val rfl rfl rfl ?kq ?_ | apply KD.valIn rfl rfl rfl ?kq ?_); (case kq => ((first | ((first | apply qt_add rfl rfl rfl ?hi ?om | apply qt_sub rfl rfl rfl ?hi ?om | apply qt_mul rfl rfl rfl ?hi ?om | apply qt_remN rfl rfl rfl ?hi ?om | apply qt_quoN rfl rfl rfl ?hi ?om | apply qt_addU rfl rfl rfl ?hi ?om | apply qt_subU rfl rfl rfl ?hi ?om | apply qt_mulU rfl rfl rfl ?hi ?om | apply qt_quoU rfl rfl rfl ?hi ?om | apply qt_convI rfl rfl rfl rfl ?hi ?om | apply qt_convU rfl rfl rfl rfl ?hi ?om | apply qt_indexAddr_arr rfl rfl rfl ?hi rfl rfl ?om | apply qt_indexAddr_slice rfl rfl rfl ?hi rfl rfl ?om | apply qt_sliceL rfl rfl rfl ?hi rfl rfl ?om | apply qt_sliceH rfl rfl rfl ?hi rfl rfl ?om | apply qt_sliceLH rfl rfl rfl rfl ?hi rfl rfl ?om | apply qt_sliceLHM rfl rfl rfl rfl rfl ?hi rfl rfl ?om | apply qt_sliceHM rfl rfl rfl rfl ?hi rfl rfl ?om); (case om => (intro hg; first | omega | (simp only [Bool.or_eq_false_iff, Bool.or_eq_true, Bool.and_eq_true, Bool.and_eq_false_iff, Bool.not_eq_true', Bool.not_eq_false', Bool.not_eq_true, Bool.not_eq_false, decide_eq_true_eq, decide_eq_false_iff_not, Bool.not_not, beq_iff_eq, bne_iff_ne, Bool.beq_eq_decide_eq] at hg; omega)))) | apply qt_ev rfl ?hi | ((first | apply qt_load1 rfl rfl ?hi rfl rfl ?hm ?hc | apply qt_loadN rfl rfl ?hi rfl rfl rfl ?hm ?hc); (case hm => repeat (first | exact List.Mem.head _ | apply List.Mem.tail _ | apply List.mem_append_right _)); (case hc => rfl)) | refine qt_call rfl rfl ?hi (fun hg => awake_p) | apply qt_pick_t rfl rfl (by first | with_reducible rfl | decide) rfl ?hi | apply qt_pick_f rfl rfl (by first | with_reducible rfl | decide) rfl ?hi | ((first | apply qt_pick_and rfl rfl rfl ?hi ?pj | apply qt_pick_or rfl rfl rfl ?hi ?pj); (case pj => (intro h h2; first | with_reducible exact h2 | with_reducible exact andi h h2 | (rw [h2]; rfl) | (rw [h, h2]; rfl) | with_reducible rfl | (simp [h2]; done) | (simp_all; done)))) | apply qt_build rfl rfl ?hi rfl | apply qt_eqs rfl rfl rfl ?hi rfl (Or.inl rfl) | apply qt_nes rfl rfl rfl ?hi rfl (Or.inl rfl) | ((first | apply qt_quoT rfl rfl rfl ?hi ?om); (case om => (intro hg; first | omega | (simp only [Bool.or_eq_false_iff, Bool.or_eq_true, Bool.and_eq_true, Bool.and_eq_false_iff, Bool.not_eq_true', Bool.not_eq_false', Bool.not_eq_true, Bool.not_eq_false, decide_eq_true_eq, decide_eq_false_iff_not, Bool.not_not, beq_iff_eq, bne_iff_ne, Bool.beq_eq_decide_eq] at hg; omega)))) | ((first | apply qt_rem rfl rfl rfl ?hi ?om | apply qt_quo rfl rfl rfl ?hi ?om | apply qt_shr rfl rfl rfl ?hi ?om | apply qt_shl rfl rfl rfl ?hi ?om); (case om => (intro hg; first | omega | (simp only [Bool.or_eq_false_iff, Bool.or_eq_true, Bool.and_eq_true, Bool.and_eq_false_iff, Bool.not_eq_true', Bool.not_eq_false', Bool.not_eq_true, Bool.not_eq_false, decide_eq_true_eq, decide_eq_false_iff_not, Bool.not_not, beq_iff_eq, bne_iff_ne, Bool.beq_eq_decide_eq] at hg; omega))))); (case hi => (intro h; (repeat' (first | with_reducible exact alln | with_reducible refine allc ?_ ?_ | with_reducible refine andi ?_ ?_)); all_goals (first | with_reducible rfl | with_reducible exact h | with_reducible exact andl h | with_reducible exact andr h | with_reducible exact andl (andl h) | (simp only [h, Bool.and_self]; done) | (simp [h]; done) | (simp_all; done)))))))
      | (refine KO.box rfl rfl rfl rfl rfl rfl ?_; intro _ _)
      | (refine KO.alloc rfl rfl rfl rfl rfl rfl ?_; intro _ _)
      | (refine KO.buildSlice rfl rfl rfl rfl rfl rfl rfl rfl rfl rfl rfl rfl rfl rfl ?_; intro _ _)
      | ((first | apply KO.store (i := 0) rfl rfl rfl rfl rfl rfl rfl rfl ?hl rfl ?hw ?ho ?hs | apply KO.store (i := 1) rfl rfl rfl rfl rfl rfl rfl rfl ?hl rfl ?hw ?ho ?hs | apply KO.store (i := 2) rfl rfl rfl rfl rfl rfl rfl rfl ?hl rfl ?hw ?ho ?hs | apply KO.store (i := 3) rfl rfl rfl rfl rfl rfl rfl rfl ?hl rfl ?hw ?ho ?hs | apply KO.store (i := 4) rfl rfl rfl rfl rfl rfl rfl rfl ?hl rfl ?hw ?ho ?hs | apply KO.store (i := 5) rfl rfl rfl rfl rfl rfl rfl rfl ?hl rfl ?hw ?ho ?hs | apply KO.store (i := 6) rfl rfl rfl rfl rfl rfl rfl rfl ?hl rfl ?hw ?ho ?hs | apply KO.store (i := 7) rfl rfl rfl rfl rfl rfl rfl rfl ?hl rfl ?hw ?ho ?hs); (case hl => rfl); (case hw => rfl); (case ho => rfl); (case hs => rfl))
      | (refine KW.cond rfl ?_ ?_ <;> (intro hc; try simp only [Bool.or_eq_false_iff, Bool.or_eq_true, Bool.and_eq_true, Bool.and_eq_false_iff, Bool.not_eq_true', Bool.not_eq_false', Bool.not_eq_true, Bool.not_eq_false, decide_eq_true_eq, decide_eq_false_iff_not, Bool.not_not, beq_iff_eq, bne_iff_ne, Bool.beq_eq_decide_eq] at hc))
      | exact absurd trivial ‹¬True›
      | (exfalso; omega)
      | fail)
    ((first | apply At.done_ret | apply At.done_normal); (focus (repeat' (first | exact ResVs.nil' | apply ResVs.cons' | exact ResV.tmp' rfl | (apply ResV.cell1 rfl ?hm rfl rfl ?hc; (case hm => repeat (first | exact List.Mem.head _ | apply List.Mem.tail _ | apply List.mem_append_right _)); (case hc => rfl)) | (apply ResV.cellN rfl ?hm rfl rfl rfl ?hc; (case hm => repeat (first | exact List.Mem.head _ | apply List.Mem.tail _ | apply List.mem_append_right _)); (case hc => rfl))))); dsimp only [resVal])
  · obtain ⟨hm, ha, hb⟩ := wE_zero he
    have hs := smp_of_in ha hb
    have hap : apE x y u v = 0 := by simp [apE, hs.1, hs.2]
    have hg0 : 0 ≤ gFar x y u v := by have := ap_bd x y u v; simp only [gFar]; omega
    obtain ⟨n, hn⟩ := Int.eq_ofNat_of_zero_le hg0
    rw [hn, Int.toNat_natCast] at hz
    have hN := seeN_bd cs w x y u v n
    obtain ⟨hwl1, hwl2⟩ := seeN_ok (cs := cs) (w := w) (x := x) (y := y) (u := u) (v := v) (n := n)
    have hsB := seesB_ok (cs := cs) (w := w) hs hn
    have hge := fun k => seeL_get (k := k) (cs := cs) (w := w) (x := x) (y := y) (u := u) (v := v) (n := n)
    have hray := fun k => seen_ray (cs := cs) (h := h) (k := k) hn (Nat.le_refl n) hs hb
    obtain ⟨S, hS⟩ : ∃ S, S = seeN cs w x y u v n := ⟨_, rfl⟩
    rw [← hS] at hz hN hwl1 hwl2 hsB
    simp only [← hS] at hge hray
    obtain ⟨pz, cz, rfl⟩ := hz.len
    have hn2 : n ≤ 256 := by
      have ha2 := ha
      have hb2 := hb
      simp only [gIn, gMay, btw, Bool.and_eq_true, decide_eq_true_eq] at ha2 hb2
      simp only [gFar, apX, apY, hs.1, hs.2, Bool.and_self, if_true] at hn
      omega
    repeat' (first
      | refine KW.seq ?_
      | refine KW.region ?_
      | refine KO.nil ?_
      | refine At.then_normal ?_
      | refine KW.skip ?_
      | refine KW.ret ?_
      | refine At.then_ret ?_
      | refine KW.block ?_
      | refine KW.exit ?_
      | refine At.block_normal ?_
      | refine At.block_ret ?_
      | refine At.loop_ret ?_
      | refine At.then_exit ?_
      | refine At.block_here rfl ?_
      | refine At.block_there rfl ?_
      | refine At.loop_exit ?_
      | refine At.cut_ret ?_
      | refine At.cutA_ret ?_
      | refine At.cutA_exit ?_
      | refine At.cut_exit ?_
      | (refine At.cut_same ?_; repeat' (first | exact FLe.nil _ | refine FLe.cons rfl rfl ?_))
      | refine KW.cond_t rfl (by first | with_reducible rfl | decide) ?_
      | refine KW.cond_f rfl (by first | with_reducible rfl | decide) ?_
      | refine KW.draw 0 (by decide +kernel) ?_
      | refine KW.drawU rfl (by decide +kernel) ?_
      | refine KD.zero ?_
      | refine KD.skip' rfl (by first | with_reducible rfl | decide) rfl rfl ?_
      | refine KO.skip' rfl (by first | with_reducible rfl | decide) rfl rfl ?_
      | refine KO.skip0' rfl (by first | with_reducible rfl | decide) rfl ?_
      | refine KO.skipIn rfl (by first | with_reducible rfl | decide) rfl rfl ?_
      | refine KD.skipIn rfl (by first | with_reducible rfl | decide) rfl rfl ?_
      | ((first | apply KO.val rfl rfl rfl ?kq ?_ | apply KO.valIn rfl rfl rfl ?kq ?_ | apply KD.val rfl rfl rfl ?kq ?_ | apply KD.valIn rfl rfl rfl ?kq ?_); (case kq => ((first | ((first | apply qt_add rfl rfl rfl ?hi ?om | apply qt_sub rfl rfl rfl ?hi ?om | apply qt_mul rfl rfl rfl ?hi ?om | apply qt_remN rfl rfl rfl ?hi ?om | apply qt_quoN rfl rfl rfl ?hi ?om | apply qt_addU rfl rfl rfl ?hi ?om | apply qt_subU rfl rfl rfl ?hi ?om | apply qt_mulU rfl rfl rfl ?hi ?om | apply qt_quoU rfl rfl rfl ?hi ?om | apply qt_convI rfl rfl rfl rfl ?hi ?om | apply qt_convU rfl rfl rfl rfl ?hi ?om | apply qt_indexAddr_arr rfl rfl rfl ?hi rfl rfl ?om | apply qt_indexAddr_slice rfl rfl rfl ?hi rfl rfl ?om | apply qt_sliceL rfl rfl rfl ?hi rfl rfl ?om | apply qt_sliceH rfl rfl rfl ?hi rfl rfl ?om | apply qt_sliceLH rfl rfl rfl rfl ?hi rfl rfl ?om | apply qt_sliceLHM rfl rfl rfl rfl rfl ?hi rfl rfl ?om | apply qt_sliceHM rfl rfl rfl rfl ?hi rfl rfl ?om); (case om => (intro hg; first | omega | (simp only [Bool.or_eq_false_iff, Bool.or_eq_true, Bool.and_eq_true, Bool.and_eq_false_iff, Bool.not_eq_true', Bool.not_eq_false', Bool.not_eq_true, Bool.not_eq_false, decide_eq_true_eq, decide_eq_false_iff_not, Bool.not_not, beq_iff_eq, bne_iff_ne, Bool.beq_eq_decide_eq] at hg; omega)))) | apply qt_ev rfl ?hi | ((first | apply qt_load1 rfl rfl ?hi rfl rfl ?hm ?hc | apply qt_loadN rfl rfl ?hi rfl rfl rfl ?hm ?hc); (case hm => repeat (first | exact List.Mem.head _ | apply List.Mem.tail _ | apply List.mem_append_right _)); (case hc => rfl)) | apply qt_pick_t rfl rfl (by first | with_reducible rfl | decide) rfl ?hi | apply qt_pick_f rfl rfl (by first | with_reducible rfl | decide) rfl ?hi | ((first | apply qt_pick_and rfl rfl rfl ?hi ?pj | apply qt_pick_or rfl rfl rfl ?hi ?pj); (case pj => (intro h h2; first | with_reducible exact h2 | with_reducible exact andi h h2 | (rw [h2]; rfl) | (rw [h, h2]; rfl) | with_reducible rfl | (simp [h2]; done) | (simp_all; done)))) | apply qt_build rfl rfl ?hi rfl | apply qt_eqs rfl rfl rfl ?hi rfl (Or.inl rfl) | apply qt_nes rfl rfl rfl ?hi rfl (Or.inl rfl) | ((first | apply qt_quoT rfl rfl rfl ?hi ?om); (case om => (intro hg; first | omega | (simp only [Bool.or_eq_false_iff, Bool.or_eq_true, Bool.and_eq_true, Bool.and_eq_false_iff, Bool.not_eq_true', Bool.not_eq_false', Bool.not_eq_true, Bool.not_eq_false, decide_eq_true_eq, decide_eq_false_iff_not, Bool.not_not, beq_iff_eq, bne_iff_ne, Bool.beq_eq_decide_eq] at hg; omega)))) | ((first | apply qt_rem rfl rfl rfl ?hi ?om | apply qt_quo rfl rfl rfl ?hi ?om | apply qt_shr rfl rfl rfl ?hi ?om | apply qt_shl rfl rfl rfl ?hi ?om); (case om => (intro hg; first | omega | (simp only [Bool.or_eq_false_iff, Bool.or_eq_true, Bool.and_eq_true, Bool.and_eq_false_iff, Bool.not_eq_true', Bool.not_eq_false', Bool.not_eq_true, Bool.not_eq_false, decide_eq_true_eq, decide_eq_false_iff_not, Bool.not_not, beq_iff_eq, bne_iff_ne, Bool.beq_eq_decide_eq] at hg; omega))))); (case hi => (intro h; (repeat' (first | with_reducible exact alln | with_reducible refine allc ?_ ?_ | with_reducible refine andi ?_ ?_)); all_goals (first | with_reducible rfl | with_reducible exact h | with_reducible exact andl h | with_reducible exact andr h | with_reducible exact andl (andl h) | (simp only [h, Bool.and_self]; done) | (simp [h]; done) | (simp_all; done)))))))
      | (refine KO.box rfl rfl rfl rfl rfl rfl ?_; intro _ _)
      | (refine KO.alloc rfl rfl rfl rfl rfl rfl ?_; intro _ _)
      | (refine KO.buildSlice rfl rfl rfl rfl rfl rfl rfl rfl rfl rfl rfl rfl rfl rfl ?_; intro _ _)
      | ((first | apply KO.store (i := 0) rfl rfl rfl rfl rfl rfl rfl rfl ?hl rfl ?hw ?ho ?hs | apply KO.store (i := 1) rfl rfl rfl rfl rfl rfl rfl rfl ?hl rfl ?hw ?ho ?hs | apply KO.store (i := 2) rfl rfl rfl rfl rfl rfl rfl rfl ?hl rfl ?hw ?ho ?hs | apply KO.store (i := 3) rfl rfl rfl rfl rfl rfl rfl rfl ?hl rfl ?hw ?ho ?hs | apply KO.store (i := 4) rfl rfl rfl rfl rfl rfl rfl rfl ?hl rfl ?hw ?ho ?hs | apply KO.store (i := 5) rfl rfl rfl rfl rfl rfl rfl rfl ?hl rfl ?hw ?ho ?hs | apply KO.store (i := 6) rfl rfl rfl rfl rfl rfl rfl rfl ?hl rfl ?hw ?ho ?hs | apply KO.store (i := 7) rfl rfl rfl rfl rfl rfl rfl rfl ?hl rfl ?hw ?ho ?hs); (case hl => rfl); (case hw => rfl); (case ho => rfl); (case hs => rfl))
      | (refine KW.cond rfl ?_ ?_ <;> (intro hc; try simp only [Bool.or_eq_false_iff, Bool.or_eq_true, Bool.and_eq_true, Bool.and_eq_false_iff, Bool.not_eq_true', Bool.not_eq_false', Bool.not_eq_true, Bool.not_eq_false, decide_eq_true_eq, decide_eq_false_iff_not, Bool.not_not, beq_iff_eq, bne_iff_ne, Bool.beq_eq_decide_eq] at hc))
      | exact absurd trivial ‹¬True›
      | (exfalso; omega)
      | fail)
    refine KO.callE rfl rfl rfl rfl rfl rfl rfl rfl (Line_p x y u v _) ?_
    rintro _ ψ (⟨h1, _⟩ | ⟨_, h1, _⟩ | ⟨_, _, z2, rfl, hz2⟩)
    · exact absurd hap h1
    · omega
    rw [hn, Int.toNat_natCast] at hz2
    obtain ⟨p2, c2, rfl⟩ := hz2.len
    have hFar := Far_p x y u v
    rw [hn, hap] at hFar
    repeat' (first
      | refine KW.seq ?_
      | refine KW.region ?_
      | refine KO.nil ?_
      | refine At.then_normal ?_
      | refine KW.skip ?_
      | refine KW.ret ?_
      | refine At.then_ret ?_
      | refine KW.block ?_
      | refine KW.exit ?_
      | refine At.block_normal ?_
      | refine At.block_ret ?_
      | refine At.loop_ret ?_
      | refine At.then_exit ?_
      | refine At.block_here rfl ?_
      | refine At.block_there rfl ?_
      | refine At.loop_exit ?_
      | refine At.cut_ret ?_
      | refine At.cutA_ret ?_
      | refine At.cutA_exit ?_
      | refine At.cut_exit ?_
      | (refine At.cut_same ?_; repeat' (first | exact FLe.nil _ | refine FLe.cons rfl rfl ?_))
      | refine KW.cond_t rfl (by first | with_reducible rfl | decide) ?_
      | refine KW.cond_f rfl (by first | with_reducible rfl | decide) ?_
      | refine KW.draw 0 (by decide +kernel) ?_
      | refine KW.drawU rfl (by decide +kernel) ?_
      | refine KD.zero ?_
      | refine KD.skip' rfl (by first | with_reducible rfl | decide) rfl rfl ?_
      | refine KO.skip' rfl (by first | with_reducible rfl | decide) rfl rfl ?_
      | refine KO.skip0' rfl (by first | with_reducible rfl | decide) rfl ?_
      | refine KO.skipIn rfl (by first | with_reducible rfl | decide) rfl rfl ?_
      | refine KD.skipIn rfl (by first | with_reducible rfl | decide) rfl rfl ?_
      | ((first | apply KO.val rfl rfl rfl ?kq ?_ | apply KO.valIn rfl rfl rfl ?kq ?_ | apply KD.val rfl rfl rfl ?kq ?_ | apply KD.valIn rfl rfl rfl ?kq ?_); (case kq => ((first | ((first | apply qt_add rfl rfl rfl ?hi ?om | apply qt_sub rfl rfl rfl ?hi ?om | apply qt_mul rfl rfl rfl ?hi ?om | apply qt_remN rfl rfl rfl ?hi ?om | apply qt_quoN rfl rfl rfl ?hi ?om | apply qt_addU rfl rfl rfl ?hi ?om | apply qt_subU rfl rfl rfl ?hi ?om | apply qt_mulU rfl rfl rfl ?hi ?om | apply qt_quoU rfl rfl rfl ?hi ?om | apply qt_convI rfl rfl rfl rfl ?hi ?om | apply qt_convU rfl rfl rfl rfl ?hi ?om | apply qt_indexAddr_arr rfl rfl rfl ?hi rfl rfl ?om | apply qt_indexAddr_slice rfl rfl rfl ?hi rfl rfl ?om | apply qt_sliceL rfl rfl rfl ?hi rfl rfl ?om | apply qt_sliceH rfl rfl rfl ?hi rfl rfl ?om | apply qt_sliceLH rfl rfl rfl rfl ?hi rfl rfl ?om | apply qt_sliceLHM rfl rfl rfl rfl rfl ?hi rfl rfl ?om | apply qt_sliceHM rfl rfl rfl rfl ?hi rfl rfl ?om); (case om => (intro hg; first | omega | (simp only [Bool.or_eq_false_iff, Bool.or_eq_true, Bool.and_eq_true, Bool.and_eq_false_iff, Bool.not_eq_true', Bool.not_eq_false', Bool.not_eq_true, Bool.not_eq_false, decide_eq_true_eq, decide_eq_false_iff_not, Bool.not_not, beq_iff_eq, bne_iff_ne, Bool.beq_eq_decide_eq] at hg; omega)))) | apply qt_ev rfl ?hi | ((first | apply qt_load1 rfl rfl ?hi rfl rfl ?hm ?hc | apply qt_loadN rfl rfl ?hi rfl rfl rfl ?hm ?hc); (case hm => repeat (first | exact List.Mem.head _ | apply List.Mem.tail _ | apply List.mem_append_right _)); (case hc => rfl)) | refine qt_call rfl rfl ?hi (fun hg => hFar) | apply qt_pick_t rfl rfl (by first | with_reducible rfl | decide) rfl ?hi | apply qt_pick_f rfl rfl (by first | with_reducible rfl | decide) rfl ?hi | ((first | apply qt_pick_and rfl rfl rfl ?hi ?pj | apply qt_pick_or rfl rfl rfl ?hi ?pj); (case pj => (intro h h2; first | with_reducible exact h2 | with_reducible exact andi h h2 | (rw [h2]; rfl) | (rw [h, h2]; rfl) | with_reducible rfl | (simp [h2]; done) | (simp_all; done)))) | apply qt_build rfl rfl ?hi rfl | apply qt_eqs rfl rfl rfl ?hi rfl (Or.inl rfl) | apply qt_nes rfl rfl rfl ?hi rfl (Or.inl rfl) | ((first | apply qt_quoT rfl rfl rfl ?hi ?om); (case om => (intro hg; first | omega | (simp only [Bool.or_eq_false_iff, Bool.or_eq_true, Bool.and_eq_true, Bool.and_eq_false_iff, Bool.not_eq_true', Bool.not_eq_false', Bool.not_eq_true, Bool.not_eq_false, decide_eq_true_eq, decide_eq_false_iff_not, Bool.not_not, beq_iff_eq, bne_iff_ne, Bool.beq_eq_decide_eq] at hg; omega)))) | ((first | apply qt_rem rfl rfl rfl ?hi ?om | apply qt_quo rfl rfl rfl ?hi ?om | apply qt_shr rfl rfl rfl ?hi ?om | apply qt_shl rfl rfl rfl ?hi ?om); (case om => (intro hg; first | omega | (simp only [Bool.or_eq_false_iff, Bool.or_eq_true, Bool.and_eq_true, Bool.and_eq_false_iff, Bool.not_eq_true', Bool.not_eq_false', Bool.not_eq_true, Bool.not_eq_false, decide_eq_true_eq, decide_eq_false_iff_not, Bool.not_not, beq_iff_eq, bne_iff_ne, Bool.beq_eq_decide_eq] at hg; omega))))); (case hi => (intro h; (repeat' (first | with_reducible exact alln | with_reducible refine allc ?_ ?_ | with_reducible refine andi ?_ ?_)); all_goals (first | with_reducible rfl | with_reducible exact h | with_reducible exact andl h | with_reducible exact andr h | with_reducible exact andl (andl h) | (simp only [h, Bool.and_self]; done) | (simp [h]; done) | (simp_all; done)))))))
      | (refine KO.box rfl rfl rfl rfl rfl rfl ?_; intro _ _)
      | (refine KO.alloc rfl rfl rfl rfl rfl rfl ?_; intro _ _)
      | (refine KO.buildSlice rfl rfl rfl rfl rfl rfl rfl rfl rfl rfl rfl rfl rfl rfl ?_; intro _ _)
      | ((first | apply KO.store (i := 0) rfl rfl rfl rfl rfl rfl rfl rfl ?hl rfl ?hw ?ho ?hs | apply KO.store (i := 1) rfl rfl rfl rfl rfl rfl rfl rfl ?hl rfl ?hw ?ho ?hs | apply KO.store (i := 2) rfl rfl rfl rfl rfl rfl rfl rfl ?hl rfl ?hw ?ho ?hs | apply KO.store (i := 3) rfl rfl rfl rfl rfl rfl rfl rfl ?hl rfl ?hw ?ho ?hs | apply KO.store (i := 4) rfl rfl rfl rfl rfl rfl rfl rfl ?hl rfl ?hw ?ho ?hs | apply KO.store (i := 5) rfl rfl rfl rfl rfl rfl rfl rfl ?hl rfl ?hw ?ho ?hs | apply KO.store (i := 6) rfl rfl rfl rfl rfl rfl rfl rfl ?hl rfl ?hw ?ho ?hs | apply KO.store (i := 7) rfl rfl rfl rfl rfl rfl rfl rfl ?hl rfl ?hw ?ho ?hs); (case hl => rfl); (case hw => rfl); (case ho => rfl); (case hs => rfl))
      | (refine KW.cond rfl ?_ ?_ <;> (intro hc; try simp only [Bool.or_eq_false_iff, Bool.or_eq_true, Bool.and_eq_true, Bool.and_eq_false_iff, Bool.not_eq_true', Bool.not_eq_false', Bool.not_eq_true, Bool.not_eq_false, decide_eq_true_eq, decide_eq_false_iff_not, Bool.not_not, beq_iff_eq, bne_iff_ne, Bool.beq_eq_decide_eq] at hc))
      | exact absurd trivial ‹¬True›
      | (exfalso; omega)
      | fail)
    refine KO.callE rfl rfl rfl rfl rfl rfl rfl rfl (Sees_p w h x y u v p m c cs _ hf.len hf.sl) ?_
    rintro _ _ ⟨(⟨h1, _⟩ | ⟨_, rfl⟩), rfl⟩
    · exact absurd he h1
    have hd : decide (S = n + 1) = decide ((S : Int) = ((n + 1 : Nat) : Int)) := by congr 1; apply propext; omega
    rw [hn, Int.toNat_natCast, hsB, hd]
    repeat' (first
      | refine KW.seq ?_
      | refine KW.region ?_
      | refine KO.nil ?_
      | refine At.then_normal ?_
      | refine KW.skip ?_
      | refine KW.ret ?_
      | refine At.then_ret ?_
      | refine KW.block ?_
      | refine KW.exit ?_
      | refine At.block_normal ?_
      | refine At.block_ret ?_
      | refine At.loop_ret ?_
      | refine At.then_exit ?_
      | refine At.block_here rfl ?_
      | refine At.block_there rfl ?_
      | refine At.loop_exit ?_
      | refine At.cut_ret ?_
      | refine At.cutA_ret ?_
      | refine At.cutA_exit ?_
      | refine At.cut_exit ?_
      | (refine At.cut_same ?_; repeat' (first | exact FLe.nil _ | refine FLe.cons rfl rfl ?_))
      | refine KW.cond_t rfl (by first | with_reducible rfl | decide) ?_
      | refine KW.cond_f rfl (by first | with_reducible rfl | decide) ?_
      | refine KW.draw 0 (by decide +kernel) ?_
      | refine KW.drawU rfl (by decide +kernel) ?_
      | refine KD.zero ?_
      | refine KD.skip' rfl (by first | with_reducible rfl | decide) rfl rfl ?_
      | refine KO.skip' rfl (by first | with_reducible rfl | decide) rfl rfl ?_
      | refine KO.skip0' rfl (by first | with_reducible rfl | decide) rfl ?_
      | refine KO.skipIn rfl (by first | with_reducible rfl | decide) rfl rfl ?_
      | refine KD.skipIn rfl (by first | with_reducible rfl | decide) rfl rfl ?_
      | ((first | apply KO.val rfl rfl rfl ?kq ?_ | apply KO.valIn rfl rfl rfl ?kq ?_ | apply KD.val rfl rfl rfl ?kq ?_ | apply KD.valIn rfl rfl rfl ?kq ?_); (case kq => ((first | ((first | apply qt_add rfl rfl rfl ?hi ?om | apply qt_sub rfl rfl rfl ?hi ?om | apply qt_mul rfl rfl rfl ?hi ?om | apply qt_remN rfl rfl rfl ?hi ?om | apply qt_quoN rfl rfl rfl ?hi ?om | apply qt_addU rfl rfl rfl ?hi ?om | apply qt_subU rfl rfl rfl ?hi ?om | apply qt_mulU rfl rfl rfl ?hi ?om | apply qt_quoU rfl rfl rfl ?hi ?om | apply qt_convI rfl rfl rfl rfl ?hi ?om | apply qt_convU rfl rfl rfl rfl ?hi ?om | apply qt_indexAddr_arr rfl rfl rfl ?hi rfl rfl ?om | apply qt_indexAddr_slice rfl rfl rfl ?hi rfl rfl ?om | apply qt_sliceL rfl rfl rfl ?hi rfl rfl ?om | apply qt_sliceH rfl rfl rfl ?hi rfl rfl ?om | apply qt_sliceLH rfl rfl rfl rfl ?hi rfl rfl ?om | apply qt_sliceLHM rfl rfl rfl rfl rfl ?hi rfl rfl ?om | apply qt_sliceHM rfl rfl rfl rfl ?hi rfl rfl ?om); (case om => (intro hg; first | omega | (simp only [Bool.or_eq_false_iff, Bool.or_eq_true, Bool.and_eq_true, Bool.and_eq_false_iff, Bool.not_eq_true', Bool.not_eq_false', Bool.not_eq_true, Bool.not_eq_false, decide_eq_true_eq, decide_eq_false_iff_not, Bool.not_not, beq_iff_eq, bne_iff_ne, Bool.beq_eq_decide_eq] at hg; omega)))) | apply qt_ev rfl ?hi | ((first | apply qt_load1 rfl rfl ?hi rfl rfl ?hm ?hc | apply qt_loadN rfl rfl ?hi rfl rfl rfl ?hm ?hc); (case hm => repeat (first | exact List.Mem.head _ | apply List.Mem.tail _ | apply List.mem_append_right _)); (case hc => rfl)) | apply qt_pick_t rfl rfl (by first | with_reducible rfl | decide) rfl ?hi | apply qt_pick_f rfl rfl (by first | with_reducible rfl | decide) rfl ?hi | ((first | apply qt_pick_and rfl rfl rfl ?hi ?pj | apply qt_pick_or rfl rfl rfl ?hi ?pj); (case pj => (intro h h2; first | with_reducible exact h2 | with_reducible exact andi h h2 | (rw [h2]; rfl) | (rw [h, h2]; rfl) | with_reducible rfl | (simp [h2]; done) | (simp_all; done)))) | apply qt_build rfl rfl ?hi rfl | apply qt_eqs rfl rfl rfl ?hi rfl (Or.inl rfl) | apply qt_nes rfl rfl rfl ?hi rfl (Or.inl rfl) | ((first | apply qt_quoT rfl rfl rfl ?hi ?om); (case om => (intro hg; first | omega | (simp only [Bool.or_eq_false_iff, Bool.or_eq_true, Bool.and_eq_true, Bool.and_eq_false_iff, Bool.not_eq_true', Bool.not_eq_false', Bool.not_eq_true, Bool.not_eq_false, decide_eq_true_eq, decide_eq_false_iff_not, Bool.not_not, beq_iff_eq, bne_iff_ne, Bool.beq_eq_decide_eq] at hg; omega)))) | ((first | apply qt_rem rfl rfl rfl ?hi ?om | apply qt_quo rfl rfl rfl ?hi ?om | apply qt_shr rfl rfl rfl ?hi ?om | apply qt_shl rfl rfl rfl ?hi ?om); (case om => (intro hg; first | omega | (simp only [Bool.or_eq_false_iff, Bool.or_eq_true, Bool.and_eq_true, Bool.and_eq_false_iff, Bool.not_eq_true', Bool.not_eq_false', Bool.not_eq_true, Bool.not_eq_false, decide_eq_true_eq, decide_eq_false_iff_not, Bool.not_not, beq_iff_eq, bne_iff_ne, Bool.beq_eq_decide_eq] at hg; omega))))); (case hi => (intro h; (repeat' (first | with_reducible exact alln | with_reducible refine allc ?_ ?_ | with_reducible refine andi ?_ ?_)); all_goals (first | with_reducible rfl | with_reducible exact h | with_reducible exact andl h | with_reducible exact andr h | with_reducible exact andl (andl h) | (simp only [h, Bool.and_self]; done) | (simp [h]; done) | (simp_all; done)))))))
      | (refine KO.box rfl rfl rfl rfl rfl rfl ?_; intro _ _)
      | (refine KO.alloc rfl rfl rfl rfl rfl rfl ?_; intro _ _)
      | (refine KO.buildSlice rfl rfl rfl rfl rfl rfl rfl rfl rfl rfl rfl rfl rfl rfl ?_; intro _ _)
      | ((first | apply KO.store (i := 0) rfl rfl rfl rfl rfl rfl rfl rfl ?hl rfl ?hw ?ho ?hs | apply KO.store (i := 1) rfl rfl rfl rfl rfl rfl rfl rfl ?hl rfl ?hw ?ho ?hs | apply KO.store (i := 2) rfl rfl rfl rfl rfl rfl rfl rfl ?hl rfl ?hw ?ho ?hs | apply KO.store (i := 3) rfl rfl rfl rfl rfl rfl rfl rfl ?hl rfl ?hw ?ho ?hs | apply KO.store (i := 4) rfl rfl rfl rfl rfl rfl rfl rfl ?hl rfl ?hw ?ho ?hs | apply KO.store (i := 5) rfl rfl rfl rfl rfl rfl rfl rfl ?hl rfl ?hw ?ho ?hs | apply KO.store (i := 6) rfl rfl rfl rfl rfl rfl rfl rfl ?hl rfl ?hw ?ho ?hs | apply KO.store (i := 7) rfl rfl rfl rfl rfl rfl rfl rfl ?hl rfl ?hw ?ho ?hs); (case hl => rfl); (case hw => rfl); (case ho => rfl); (case hs => rfl))
      | (refine KW.cond rfl ?_ ?_ <;> (intro hc; try simp only [Bool.or_eq_false_iff, Bool.or_eq_true, Bool.and_eq_true, Bool.and_eq_false_iff, Bool.not_eq_true', Bool.not_eq_false', Bool.not_eq_true, Bool.not_eq_false, decide_eq_true_eq, decide_eq_false_iff_not, Bool.not_not, beq_iff_eq, bne_iff_ne, Bool.beq_eq_decide_eq] at hc))
      | exact absurd trivial ‹¬True›
      | (exfalso; omega)
      | fail)
    refine KW.loop (fun k : Nat => k ≤ S) (fun k => ([(15, true, .int .i64 (k : Int)), (7, true, .slice pz S cz), (9, true, .slice p2 (n + 1) c2), (11, true, .int .i64 (n : Int)), (13, true, .bool (decide ((S : Int) = ((n + 1 : Nat) : Int)))), (3, true, .pointer (some ⟨b3, 0, none⟩)), (4, true, .pointer (some ⟨b4, 0, none⟩))], (b5, cl [.int .i64 u, .int .i64 v] 23) :: (b4, cl [.int .i64 x, .int .i64 y] 23) :: (b3, cl [.int .i64 w, .int .i64 h, .slice p m c] 38) :: (φ ++ ψ))) (fun k => S - k) 0
      (Nat.zero_le _) (Le.perm (by repeat' (first | exact FLe.nil _ | refine FLe.cons rfl rfl ?_)) (by classical exact List.perm_iff_count.2 (fun _ => by first | (simp only [List.count_append, List.count_cons, List.count_nil, List.append_assoc, List.cons_append, List.nil_append]; done) | (simp only [List.count_append, List.count_cons, List.count_nil, List.append_assoc, List.cons_append, List.nil_append]; omega)))) ?_
    intro k hk
    dsimp only
    have hsz : SL E.β (φ ++ ψ) 2 S (fl2 (seeL cs w x y u v n)) pz := SL.ofVec hz (by intro r hr; simp [hr])
    have hsl : SL E.β (φ ++ ψ) 2 (n + 1) (fl2 (linL x y u v n)) p2 := SL.ofVec hz2 (by intro r hr; simp [hr])
    by_cases hkS : k < S
    · have hkn : k ≤ n := by omega
      have hcin := linC_in (k := k) ha hb hkn
      have h1 := hge k hkS
      have h2 := linL_get (x := x) (y := y) (u := u) (v := v) hkn
      have hw1 := hwl1 k
      have hw2 : k + 1 = S → S < n + 1 → wlC cs w (linC x y u v n k) = true := fun e e2 => by
        have := (hwl2 e2).1
        rwa [← e, Nat.add_sub_cancel] at this
      obtain ⟨⟨cx, cy⟩, hcc⟩ : ∃ z, z = linC x y u v n k := ⟨_, rfl⟩
      rw [← hcc] at hcin h1 h2 hw1 hw2
      dsimp only at hcin
      obtain ⟨i, e1, e2, e3, _, _, _, _, e4⟩ := idx_lt hcin
      have hE0 : gIdxE w h cx cy = 0 := by unfold gIdxE; rw [if_pos hcin]
      have hIx := Index_p w h cx cy
      rw [e2, hE0] at hIx
      have hml := hf.len
      obtain ⟨q, hq⟩ : ∃ q, cs[(i : Int).toNat]? = some q := ⟨_, List.getElem?_eq_getElem (by omega)⟩
      have hwq : wlC cs w (cx, cy) = decide (q = 0) := by
        unfold wlC
        rw [show ((cx, cy).2 * w + (cx, cy).1) = (i : Int) from e1, hq]
        simp
      rw [hwq] at hw1 hw2
      simp only [decide_eq_true_eq, decide_eq_false_iff_not] at hw1 hw2
      obtain ⟨bz, oz, rfl, hz1⟩ := hsz.2 (by omega)
      obtain ⟨bl, ol, rfl, hl1⟩ := hsl.2 (by omega)
      obtain ⟨bc, oc, rfl, hc1⟩ := hf.sl.2 (by omega)
      repeat' (first
        | refine KW.seq ?_
        | refine KW.region ?_
        | refine KO.nil ?_
        | refine At.then_normal ?_
        | refine KW.skip ?_
        | refine KW.ret ?_
        | refine At.then_ret ?_
        | refine KW.block ?_
        | refine KW.exit ?_
        | refine At.block_normal ?_
        | refine At.block_ret ?_
        | refine At.loop_ret ?_
        | refine At.then_exit ?_
        | refine At.block_here rfl ?_
        | refine At.block_there rfl ?_
        | refine At.loop_exit ?_
        | refine At.cut_ret ?_
        | refine At.cutA_ret ?_
        | refine At.cutA_exit ?_
        | refine At.cut_exit ?_
        | (refine At.cut_same ?_; repeat' (first | exact FLe.nil _ | refine FLe.cons rfl rfl ?_))
        | refine KW.cond_t rfl (by first | with_reducible rfl | decide) ?_
        | refine KW.cond_f rfl (by first | with_reducible rfl | decide) ?_
        | refine KW.draw 0 (by decide +kernel) ?_
        | refine KW.drawU rfl (by decide +kernel) ?_
        | refine KD.zero ?_
        | refine KD.skip' rfl (by first | with_reducible rfl | decide) rfl rfl ?_
        | refine KO.skip' rfl (by first | with_reducible rfl | decide) rfl rfl ?_
        | refine KO.skip0' rfl (by first | with_reducible rfl | decide) rfl ?_
        | refine KO.skipIn rfl (by first | with_reducible rfl | decide) rfl rfl ?_
        | refine KD.skipIn rfl (by first | with_reducible rfl | decide) rfl rfl ?_
        | ((first | apply KO.val rfl rfl rfl ?kq ?_ | apply KO.valIn rfl rfl rfl ?kq ?_ | apply KD.val rfl rfl rfl ?kq ?_ | apply KD.valIn rfl rfl rfl ?kq ?_); (case kq => ((first | ((first | apply qt_add rfl rfl rfl ?hi ?om | apply qt_sub rfl rfl rfl ?hi ?om | apply qt_mul rfl rfl rfl ?hi ?om | apply qt_remN rfl rfl rfl ?hi ?om | apply qt_quoN rfl rfl rfl ?hi ?om | apply qt_addU rfl rfl rfl ?hi ?om | apply qt_subU rfl rfl rfl ?hi ?om | apply qt_mulU rfl rfl rfl ?hi ?om | apply qt_quoU rfl rfl rfl ?hi ?om | apply qt_convI rfl rfl rfl rfl ?hi ?om | apply qt_convU rfl rfl rfl rfl ?hi ?om | apply qt_indexAddr_arr rfl rfl rfl ?hi rfl rfl ?om | apply qt_indexAddr_slice rfl rfl rfl ?hi rfl rfl ?om | apply qt_sliceL rfl rfl rfl ?hi rfl rfl ?om | apply qt_sliceH rfl rfl rfl ?hi rfl rfl ?om | apply qt_sliceLH rfl rfl rfl rfl ?hi rfl rfl ?om | apply qt_sliceLHM rfl rfl rfl rfl rfl ?hi rfl rfl ?om | apply qt_sliceHM rfl rfl rfl rfl ?hi rfl rfl ?om); (case om => (intro hg; first | omega | (simp only [Bool.or_eq_false_iff, Bool.or_eq_true, Bool.and_eq_true, Bool.and_eq_false_iff, Bool.not_eq_true', Bool.not_eq_false', Bool.not_eq_true, Bool.not_eq_false, decide_eq_true_eq, decide_eq_false_iff_not, Bool.not_not, beq_iff_eq, bne_iff_ne, Bool.beq_eq_decide_eq] at hg; omega)))) | apply qt_ev rfl ?hi | ((first | apply qt_load1 rfl rfl ?hi rfl rfl ?hm ?hc | apply qt_loadN rfl rfl ?hi rfl rfl rfl ?hm ?hc); (case hm => repeat (first | exact List.Mem.head _ | apply List.Mem.tail _ | apply List.mem_append_right _)); (case hc => rfl)) | refine qt_call rfl rfl ?hi (fun hg => hIx) | apply qt_pick_t rfl rfl (by first | with_reducible rfl | decide) rfl ?hi | apply qt_pick_f rfl rfl (by first | with_reducible rfl | decide) rfl ?hi | ((first | apply qt_pick_and rfl rfl rfl ?hi ?pj | apply qt_pick_or rfl rfl rfl ?hi ?pj); (case pj => (intro h h2; first | with_reducible exact h2 | with_reducible exact andi h h2 | (rw [h2]; rfl) | (rw [h, h2]; rfl) | with_reducible rfl | (simp [h2]; done) | (simp_all; done)))) | apply qt_build rfl rfl ?hi rfl | apply qt_eqs rfl rfl rfl ?hi rfl (Or.inl rfl) | apply qt_nes rfl rfl rfl ?hi rfl (Or.inl rfl) | ((first | apply qt_quoT rfl rfl rfl ?hi ?om); (case om => (intro hg; first | omega | (simp only [Bool.or_eq_false_iff, Bool.or_eq_true, Bool.and_eq_true, Bool.and_eq_false_iff, Bool.not_eq_true', Bool.not_eq_false', Bool.not_eq_true, Bool.not_eq_false, decide_eq_true_eq, decide_eq_false_iff_not, Bool.not_not, beq_iff_eq, bne_iff_ne, Bool.beq_eq_decide_eq] at hg; omega)))) | ((first | apply qt_rem rfl rfl rfl ?hi ?om | apply qt_quo rfl rfl rfl ?hi ?om | apply qt_shr rfl rfl rfl ?hi ?om | apply qt_shl rfl rfl rfl ?hi ?om); (case om => (intro hg; first | omega | (simp only [Bool.or_eq_false_iff, Bool.or_eq_true, Bool.and_eq_true, Bool.and_eq_false_iff, Bool.not_eq_true', Bool.not_eq_false', Bool.not_eq_true, Bool.not_eq_false, decide_eq_true_eq, decide_eq_false_iff_not, Bool.not_not, beq_iff_eq, bne_iff_ne, Bool.beq_eq_decide_eq] at hg; omega))))); (case hi => (intro h; (repeat' (first | with_reducible exact alln | with_reducible refine allc ?_ ?_ | with_reducible refine andi ?_ ?_)); all_goals (first | with_reducible rfl | with_reducible exact h | with_reducible exact andl h | with_reducible exact andr h | with_reducible exact andl (andl h) | (simp only [h, Bool.and_self]; done) | (simp [h]; done) | (simp_all; done)))))))
        | (refine KO.box rfl rfl rfl rfl rfl rfl ?_; intro _ _)
        | (refine KO.alloc rfl rfl rfl rfl rfl rfl ?_; intro _ _)
        | (refine KO.buildSlice rfl rfl rfl rfl rfl rfl rfl rfl rfl rfl rfl rfl rfl rfl ?_; intro _ _)
        | ((first | apply KO.store (i := 0) rfl rfl rfl rfl rfl rfl rfl rfl ?hl rfl ?hw ?ho ?hs | apply KO.store (i := 1) rfl rfl rfl rfl rfl rfl rfl rfl ?hl rfl ?hw ?ho ?hs | apply KO.store (i := 2) rfl rfl rfl rfl rfl rfl rfl rfl ?hl rfl ?hw ?ho ?hs | apply KO.store (i := 3) rfl rfl rfl rfl rfl rfl rfl rfl ?hl rfl ?hw ?ho ?hs | apply KO.store (i := 4) rfl rfl rfl rfl rfl rfl rfl rfl ?hl rfl ?hw ?ho ?hs | apply KO.store (i := 5) rfl rfl rfl rfl rfl rfl rfl rfl ?hl rfl ?hw ?ho ?hs | apply KO.store (i := 6) rfl rfl rfl rfl rfl rfl rfl rfl ?hl rfl ?hw ?ho ?hs | apply KO.store (i := 7) rfl rfl rfl rfl rfl rfl rfl rfl ?hl rfl ?hw ?ho ?hs); (case hl => rfl); (case hw => rfl); (case ho => rfl); (case hs => rfl))
        | (refine KW.cond rfl ?_ ?_ <;> (intro hc; try simp only [Bool.or_eq_false_iff, Bool.or_eq_true, Bool.and_eq_true, Bool.and_eq_false_iff, Bool.not_eq_true', Bool.not_eq_false', Bool.not_eq_true, Bool.not_eq_false, decide_eq_true_eq, decide_eq_false_iff_not, Bool.not_not, beq_iff_eq, bne_iff_ne, Bool.beq_eq_decide_eq] at hc))
        | exact absurd trivial ‹¬True›
        | (exfalso; omega)
        | ((first | apply KO.val (g := true) rfl rfl rfl | apply KD.val (g := true) rfl rfl rfl | apply KDE.val (g := true) rfl rfl rfl | apply KDE.val rfl rfl rfl | apply KDH.val0 (g := true) rfl rfl rfl | apply KDH.val1 (g := true) rfl rfl rfl | apply KO.val rfl rfl rfl | apply KD.val rfl rfl rfl | apply KDH.val0 rfl rfl rfl | apply KO.valIn rfl rfl rfl | apply KD.valIn rfl rfl rfl); (apply qt_loadN_cel rfl rfl ?hi rfl rfl rfl ?hl ?hc); (case hc => first | exact fun _ => ((fun j v hv => (cel2 hz1 h1 j v hv).mono (fun _ hq => List.mem_cons_of_mem _ (List.mem_cons_of_mem _ (List.mem_cons_of_mem _ hq))))) | exact fun _ => ((fun j v hv => (cel2 hl1 h2 j v hv).mono (fun _ hq => List.mem_cons_of_mem _ (List.mem_cons_of_mem _ (List.mem_cons_of_mem _ hq))))) | exact fun _ => ((cel16 hc1 hq).mono (fun _ hq => by cases hq)) | exact fun hg => ((fun j v hv => (cel2 hz1 h1 j v hv).mono (fun _ hq => List.mem_cons_of_mem _ (List.mem_cons_of_mem _ (List.mem_cons_of_mem _ hq))))) | exact fun hg => ((fun j v hv => (cel2 hl1 h2 j v hv).mono (fun _ hq => List.mem_cons_of_mem _ (List.mem_cons_of_mem _ (List.mem_cons_of_mem _ hq))))) | exact fun hg => ((cel16 hc1 hq).mono (fun _ hq => by cases hq))); (case hl => rfl); (case hi => (first | exact fun _ => rfl | (intro h; first | rfl | exact h | (simp [h]; done) | (simp_all; done)))))
        | ((first | apply KO.val (g := true) rfl rfl rfl | apply KD.val (g := true) rfl rfl rfl | apply KDE.val (g := true) rfl rfl rfl | apply KDE.val rfl rfl rfl | apply KDH.val0 (g := true) rfl rfl rfl | apply KDH.val1 (g := true) rfl rfl rfl | apply KO.val rfl rfl rfl | apply KD.val rfl rfl rfl | apply KDH.val0 rfl rfl rfl | apply KO.valIn rfl rfl rfl | apply KD.valIn rfl rfl rfl); (apply qt_load1_cel rfl rfl ?hi rfl rfl ?hc); (case hc => first | exact fun _ => ((fun j v hv => (cel2 hz1 h1 j v hv).mono (fun _ hq => List.mem_cons_of_mem _ (List.mem_cons_of_mem _ (List.mem_cons_of_mem _ hq))))) | exact fun _ => ((fun j v hv => (cel2 hl1 h2 j v hv).mono (fun _ hq => List.mem_cons_of_mem _ (List.mem_cons_of_mem _ (List.mem_cons_of_mem _ hq))))) | exact fun _ => ((cel16 hc1 hq).mono (fun _ hq => by cases hq)) | exact fun hg => ((fun j v hv => (cel2 hz1 h1 j v hv).mono (fun _ hq => List.mem_cons_of_mem _ (List.mem_cons_of_mem _ (List.mem_cons_of_mem _ hq))))) | exact fun hg => ((fun j v hv => (cel2 hl1 h2 j v hv).mono (fun _ hq => List.mem_cons_of_mem _ (List.mem_cons_of_mem _ (List.mem_cons_of_mem _ hq))))) | exact fun hg => ((cel16 hc1 hq).mono (fun _ hq => by cases hq))); (case hi => (first | exact fun _ => rfl | (intro h; first | rfl | exact h | (simp [h]; done) | (simp_all; done)))))
        | (exfalso; simp only [not_true_eq_false, false_or, or_self] at hc; omega)
        | fail)
      · exfalso
        obtain ⟨h5, h6⟩ := hc
        have h7 := fun h => (hwl2 h).2
        apply h5
        rw [Bool.eq_iff_iff]
        simp only [Bool.and_eq_true, decide_eq_true_eq]
        constructor <;> (rintro ⟨_, _⟩; omega)
      · exact At.loop_on (k + 1) (by omega) (by omega) (Le.perm (by repeat' (first | exact FLe.nil _ | refine FLe.cons rfl rfl ?_)) (by classical exact List.perm_iff_count.2 (fun _ => by first | (simp only [List.count_append, List.count_cons, List.count_nil, List.append_assoc, List.cons_append, List.nil_append]; done) | (simp only [List.count_append, List.count_cons, List.count_nil, List.append_assoc, List.cons_append, List.nil_append]; omega))))
    · have htr := trivial
      have : k = S := by omega
      subst this
      repeat' (first
        | refine KW.seq ?_
        | refine KW.region ?_
        | refine KO.nil ?_
        | refine At.then_normal ?_
        | refine KW.skip ?_
        | refine KW.ret ?_
        | refine At.then_ret ?_
        | refine KW.block ?_
        | refine KW.exit ?_
        | refine At.block_normal ?_
        | refine At.block_ret ?_
        | refine At.loop_ret ?_
        | refine At.then_exit ?_
        | refine At.block_here rfl ?_
        | refine At.block_there rfl ?_
        | refine At.loop_exit ?_
        | refine At.cut_ret ?_
        | refine At.cutA_ret ?_
        | refine At.cutA_exit ?_
        | refine At.cut_exit ?_
        | (refine At.cut_same ?_; repeat' (first | exact FLe.nil _ | refine FLe.cons rfl rfl ?_))
        | refine KW.cond_t rfl (by first | with_reducible rfl | decide) ?_
        | refine KW.cond_f rfl (by first | with_reducible rfl | decide) ?_
        | refine KW.draw 0 (by decide +kernel) ?_
        | refine KW.drawU rfl (by decide +kernel) ?_
        | refine KD.zero ?_
        | refine KD.skip' rfl (by first | with_reducible rfl | decide) rfl rfl ?_
        | refine KO.skip' rfl (by first | with_reducible rfl | decide) rfl rfl ?_
        | refine KO.skip0' rfl (by first | with_reducible rfl | decide) rfl ?_
        | refine KO.skipIn rfl (by first | with_reducible rfl | decide) rfl rfl ?_
        | refine KD.skipIn rfl (by first | with_reducible rfl | decide) rfl rfl ?_
        | ((first | apply KO.val rfl rfl rfl ?kq ?_ | apply KO.valIn rfl rfl rfl ?kq ?_ | apply KD.val rfl rfl rfl ?kq ?_ | apply KD.valIn rfl rfl rfl ?kq ?_); (case kq => ((first | ((first | apply qt_add rfl rfl rfl ?hi ?om | apply qt_sub rfl rfl rfl ?hi ?om | apply qt_mul rfl rfl rfl ?hi ?om | apply qt_remN rfl rfl rfl ?hi ?om | apply qt_quoN rfl rfl rfl ?hi ?om | apply qt_addU rfl rfl rfl ?hi ?om | apply qt_subU rfl rfl rfl ?hi ?om | apply qt_mulU rfl rfl rfl ?hi ?om | apply qt_quoU rfl rfl rfl ?hi ?om | apply qt_convI rfl rfl rfl rfl ?hi ?om | apply qt_convU rfl rfl rfl rfl ?hi ?om | apply qt_indexAddr_arr rfl rfl rfl ?hi rfl rfl ?om | apply qt_indexAddr_slice rfl rfl rfl ?hi rfl rfl ?om | apply qt_sliceL rfl rfl rfl ?hi rfl rfl ?om | apply qt_sliceH rfl rfl rfl ?hi rfl rfl ?om | apply qt_sliceLH rfl rfl rfl rfl ?hi rfl rfl ?om | apply qt_sliceLHM rfl rfl rfl rfl rfl ?hi rfl rfl ?om | apply qt_sliceHM rfl rfl rfl rfl ?hi rfl rfl ?om); (case om => (intro hg; first | omega | (simp only [Bool.or_eq_false_iff, Bool.or_eq_true, Bool.and_eq_true, Bool.and_eq_false_iff, Bool.not_eq_true', Bool.not_eq_false', Bool.not_eq_true, Bool.not_eq_false, decide_eq_true_eq, decide_eq_false_iff_not, Bool.not_not, beq_iff_eq, bne_iff_ne, Bool.beq_eq_decide_eq] at hg; omega)))) | apply qt_ev rfl ?hi | ((first | apply qt_load1 rfl rfl ?hi rfl rfl ?hm ?hc | apply qt_loadN rfl rfl ?hi rfl rfl rfl ?hm ?hc); (case hm => repeat (first | exact List.Mem.head _ | apply List.Mem.tail _ | apply List.mem_append_right _)); (case hc => rfl)) | refine qt_call rfl rfl ?hi (fun hg => awake_p) | apply qt_pick_t rfl rfl (by first | with_reducible rfl | decide) rfl ?hi | apply qt_pick_f rfl rfl (by first | with_reducible rfl | decide) rfl ?hi | ((first | apply qt_pick_and rfl rfl rfl ?hi ?pj | apply qt_pick_or rfl rfl rfl ?hi ?pj); (case pj => (intro h h2; first | with_reducible exact h2 | with_reducible exact andi h h2 | (rw [h2]; rfl) | (rw [h, h2]; rfl) | with_reducible rfl | (simp [h2]; done) | (simp_all; done)))) | apply qt_build rfl rfl ?hi rfl | apply qt_eqs rfl rfl rfl ?hi rfl (Or.inl rfl) | apply qt_nes rfl rfl rfl ?hi rfl (Or.inl rfl) | ((first | apply qt_quoT rfl rfl rfl ?hi ?om); (case om => (intro hg; first | omega | (simp only [Bool.or_eq_false_iff, Bool.or_eq_true, Bool.and_eq_true, Bool.and_eq_false_iff, Bool.not_eq_true', Bool.not_eq_false', Bool.not_eq_true, Bool.not_eq_false, decide_eq_true_eq, decide_eq_false_iff_not, Bool.not_not, beq_iff_eq, bne_iff_ne, Bool.beq_eq_decide_eq] at hg; omega)))) | ((first | apply qt_rem rfl rfl rfl ?hi ?om | apply qt_quo rfl rfl rfl ?hi ?om | apply qt_shr rfl rfl rfl ?hi ?om | apply qt_shl rfl rfl rfl ?hi ?om); (case om => (intro hg; first | omega | (simp only [Bool.or_eq_false_iff, Bool.or_eq_true, Bool.and_eq_true, Bool.and_eq_false_iff, Bool.not_eq_true', Bool.not_eq_false', Bool.not_eq_true, Bool.not_eq_false, decide_eq_true_eq, decide_eq_false_iff_not, Bool.not_not, beq_iff_eq, bne_iff_ne, Bool.beq_eq_decide_eq] at hg; omega))))); (case hi => (intro h; (repeat' (first | with_reducible exact alln | with_reducible refine allc ?_ ?_ | with_reducible refine andi ?_ ?_)); all_goals (first | with_reducible rfl | with_reducible exact h | with_reducible exact andl h | with_reducible exact andr h | with_reducible exact andl (andl h) | (simp only [h, Bool.and_self]; done) | (simp [h]; done) | (simp_all; done)))))))
        | (refine KO.box rfl rfl rfl rfl rfl rfl ?_; intro _ _)
        | (refine KO.alloc rfl rfl rfl rfl rfl rfl ?_; intro _ _)
        | (refine KO.buildSlice rfl rfl rfl rfl rfl rfl rfl rfl rfl rfl rfl rfl rfl rfl ?_; intro _ _)
        | ((first | apply KO.store (i := 0) rfl rfl rfl rfl rfl rfl rfl rfl ?hl rfl ?hw ?ho ?hs | apply KO.store (i := 1) rfl rfl rfl rfl rfl rfl rfl rfl ?hl rfl ?hw ?ho ?hs | apply KO.store (i := 2) rfl rfl rfl rfl rfl rfl rfl rfl ?hl rfl ?hw ?ho ?hs | apply KO.store (i := 3) rfl rfl rfl rfl rfl rfl rfl rfl ?hl rfl ?hw ?ho ?hs | apply KO.store (i := 4) rfl rfl rfl rfl rfl rfl rfl rfl ?hl rfl ?hw ?ho ?hs | apply KO.store (i := 5) rfl rfl rfl rfl rfl rfl rfl rfl ?hl rfl ?hw ?ho ?hs | apply KO.store (i := 6) rfl rfl rfl rfl rfl rfl rfl rfl ?hl rfl ?hw ?ho ?hs | apply KO.store (i := 7) rfl rfl rfl rfl rfl rfl rfl rfl ?hl rfl ?hw ?ho ?hs); (case hl => rfl); (case hw => rfl); (case ho => rfl); (case hs => rfl))
        | (refine KW.cond rfl ?_ ?_ <;> (intro hc; try simp only [Bool.or_eq_false_iff, Bool.or_eq_true, Bool.and_eq_true, Bool.and_eq_false_iff, Bool.not_eq_true', Bool.not_eq_false', Bool.not_eq_true, Bool.not_eq_false, decide_eq_true_eq, decide_eq_false_iff_not, Bool.not_not, beq_iff_eq, bne_iff_ne, Bool.beq_eq_decide_eq] at hc))
        | exact absurd trivial ‹¬True›
        | (exfalso; omega)
        | ((first | apply KO.val (g := true) rfl rfl rfl | apply KD.val (g := true) rfl rfl rfl | apply KDE.val (g := true) rfl rfl rfl | apply KDE.val rfl rfl rfl | apply KDH.val0 (g := true) rfl rfl rfl | apply KDH.val1 (g := true) rfl rfl rfl | apply KO.val rfl rfl rfl | apply KD.val rfl rfl rfl | apply KDH.val0 rfl rfl rfl | apply KO.valIn rfl rfl rfl | apply KD.valIn rfl rfl rfl); (apply qt_loadN_cel rfl rfl ?hi rfl rfl rfl ?hl ?hc); (case hc => first | exact fun _ => ((fun j v hv => (cel2 hz1 h1 j v hv).mono (fun _ hq => List.mem_cons_of_mem _ (List.mem_cons_of_mem _ (List.mem_cons_of_mem _ hq))))) | exact fun _ => ((fun j v hv => (cel2 hl1 h2 j v hv).mono (fun _ hq => List.mem_cons_of_mem _ (List.mem_cons_of_mem _ (List.mem_cons_of_mem _ hq))))) | exact fun _ => ((cel16 hc1 hq).mono (fun _ hq => by cases hq)) | exact fun hg => ((fun j v hv => (cel2 hz1 h1 j v hv).mono (fun _ hq => List.mem_cons_of_mem _ (List.mem_cons_of_mem _ (List.mem_cons_of_mem _ hq))))) | exact fun hg => ((fun j v hv => (cel2 hl1 h2 j v hv).mono (fun _ hq => List.mem_cons_of_mem _ (List.mem_cons_of_mem _ (List.mem_cons_of_mem _ hq))))) | exact fun hg => ((cel16 hc1 hq).mono (fun _ hq => by cases hq))); (case hl => rfl); (case hi => (first | exact fun _ => rfl | (intro h; first | rfl | exact h | (simp [h]; done) | (simp_all; done)))))
        | ((first | apply KO.val (g := true) rfl rfl rfl | apply KD.val (g := true) rfl rfl rfl | apply KDE.val (g := true) rfl rfl rfl | apply KDE.val rfl rfl rfl | apply KDH.val0 (g := true) rfl rfl rfl | apply KDH.val1 (g := true) rfl rfl rfl | apply KO.val rfl rfl rfl | apply KD.val rfl rfl rfl | apply KDH.val0 rfl rfl rfl | apply KO.valIn rfl rfl rfl | apply KD.valIn rfl rfl rfl); (apply qt_load1_cel rfl rfl ?hi rfl rfl ?hc); (case hc => first | exact fun _ => ((fun j v hv => (cel2 hz1 h1 j v hv).mono (fun _ hq => List.mem_cons_of_mem _ (List.mem_cons_of_mem _ (List.mem_cons_of_mem _ hq))))) | exact fun _ => ((fun j v hv => (cel2 hl1 h2 j v hv).mono (fun _ hq => List.mem_cons_of_mem _ (List.mem_cons_of_mem _ (List.mem_cons_of_mem _ hq))))) | exact fun _ => ((cel16 hc1 hq).mono (fun _ hq => by cases hq)) | exact fun hg => ((fun j v hv => (cel2 hz1 h1 j v hv).mono (fun _ hq => List.mem_cons_of_mem _ (List.mem_cons_of_mem _ (List.mem_cons_of_mem _ hq))))) | exact fun hg => ((fun j v hv => (cel2 hl1 h2 j v hv).mono (fun _ hq => List.mem_cons_of_mem _ (List.mem_cons_of_mem _ (List.mem_cons_of_mem _ hq))))) | exact fun hg => ((cel16 hc1 hq).mono (fun _ hq => by cases hq))); (case hi => (first | exact fun _ => rfl | (intro h; first | rfl | exact h | (simp [h]; done) | (simp_all; done)))))
        | (exfalso; simp only [not_true_eq_false, false_or, or_self] at hc; omega)
        | (exact absurd rfl hc)
        | fail)
      · have hck : chkE w h m = 0 := by
          unfold wE at he
          split at he
          · assumption
          · contradiction
        have hal : allE w h m [(x, y)] (n : Int) = 0 := by
          unfold allE
          rw [if_pos hck, if_neg (by omega)]
          simp [onE, ha]
        have hgm : gMay w h = true := by
          simp only [gIn, Bool.and_eq_true] at ha
          exact ha.1.1
        obtain ⟨n1, n2, n3, _⟩ := nwO_bd hgm
        refine KO.callE rfl rfl rfl rfl rfl rfl rfl rfl (Visible_p w h x y n p m c cs _ hf.len hf.sl) ?_
        rintro _ _ (⟨h1, _⟩ | ⟨_, bm, bw, rfl, rfl⟩)
        · exact absurd hal h1
        rw [Int.toNat_natCast n]
        repeat' (first
          | refine KW.seq ?_
          | refine KW.region ?_
          | refine KO.nil ?_
          | refine At.then_normal ?_
          | refine KW.skip ?_
          | refine KW.ret ?_
          | refine At.then_ret ?_
          | refine KW.block ?_
          | refine KW.exit ?_
          | refine At.block_normal ?_
          | refine At.block_ret ?_
          | refine At.loop_ret ?_
          | refine At.then_exit ?_
          | refine At.block_here rfl ?_
          | refine At.block_there rfl ?_
          | refine At.loop_exit ?_
          | refine At.cut_ret ?_
          | refine At.cutA_ret ?_
          | refine At.cutA_exit ?_
          | refine At.cut_exit ?_
          | (refine At.cut_same ?_; repeat' (first | exact FLe.nil _ | refine FLe.cons rfl rfl ?_))
          | refine KW.cond_t rfl (by first | with_reducible rfl | decide) ?_
          | refine KW.cond_f rfl (by first | with_reducible rfl | decide) ?_
          | refine KW.draw 0 (by decide +kernel) ?_
          | refine KW.drawU rfl (by decide +kernel) ?_
          | refine KD.zero ?_
          | refine KD.skip' rfl (by first | with_reducible rfl | decide) rfl rfl ?_
          | refine KO.skip' rfl (by first | with_reducible rfl | decide) rfl rfl ?_
          | refine KO.skip0' rfl (by first | with_reducible rfl | decide) rfl ?_
          | refine KO.skipIn rfl (by first | with_reducible rfl | decide) rfl rfl ?_
          | refine KD.skipIn rfl (by first | with_reducible rfl | decide) rfl rfl ?_
          | ((first | apply KO.val rfl rfl rfl ?kq ?_ | apply KO.valIn rfl rfl rfl ?kq ?_ | apply KD.val rfl rfl rfl ?kq ?_ | apply KD.valIn rfl rfl rfl ?kq ?_); (case kq => ((first | ((first | apply qt_add rfl rfl rfl ?hi ?om | apply qt_sub rfl rfl rfl ?hi ?om | apply qt_mul rfl rfl rfl ?hi ?om | apply qt_remN rfl rfl rfl ?hi ?om | apply qt_quoN rfl rfl rfl ?hi ?om | apply qt_addU rfl rfl rfl ?hi ?om | apply qt_subU rfl rfl rfl ?hi ?om | apply qt_mulU rfl rfl rfl ?hi ?om | apply qt_quoU rfl rfl rfl ?hi ?om | apply qt_convI rfl rfl rfl rfl ?hi ?om | apply qt_convU rfl rfl rfl rfl ?hi ?om | apply qt_indexAddr_arr rfl rfl rfl ?hi rfl rfl ?om | apply qt_indexAddr_slice rfl rfl rfl ?hi rfl rfl ?om | apply qt_sliceL rfl rfl rfl ?hi rfl rfl ?om | apply qt_sliceH rfl rfl rfl ?hi rfl rfl ?om | apply qt_sliceLH rfl rfl rfl rfl ?hi rfl rfl ?om | apply qt_sliceLHM rfl rfl rfl rfl rfl ?hi rfl rfl ?om | apply qt_sliceHM rfl rfl rfl rfl ?hi rfl rfl ?om); (case om => (intro hg; first | omega | (simp only [Bool.or_eq_false_iff, Bool.or_eq_true, Bool.and_eq_true, Bool.and_eq_false_iff, Bool.not_eq_true', Bool.not_eq_false', Bool.not_eq_true, Bool.not_eq_false, decide_eq_true_eq, decide_eq_false_iff_not, Bool.not_not, beq_iff_eq, bne_iff_ne, Bool.beq_eq_decide_eq] at hg; omega)))) | apply qt_ev rfl ?hi | ((first | apply qt_load1 rfl rfl ?hi rfl rfl ?hm ?hc | apply qt_loadN rfl rfl ?hi rfl rfl rfl ?hm ?hc); (case hm => repeat (first | exact List.Mem.head _ | apply List.Mem.tail _ | apply List.mem_append_right _)); (case hc => rfl)) | apply qt_pick_t rfl rfl (by first | with_reducible rfl | decide) rfl ?hi | apply qt_pick_f rfl rfl (by first | with_reducible rfl | decide) rfl ?hi | ((first | apply qt_pick_and rfl rfl rfl ?hi ?pj | apply qt_pick_or rfl rfl rfl ?hi ?pj); (case pj => (intro h h2; first | with_reducible exact h2 | with_reducible exact andi h h2 | (rw [h2]; rfl) | (rw [h, h2]; rfl) | with_reducible rfl | (simp [h2]; done) | (simp_all; done)))) | apply qt_build rfl rfl ?hi rfl | apply qt_eqs rfl rfl rfl ?hi rfl (Or.inl rfl) | apply qt_nes rfl rfl rfl ?hi rfl (Or.inl rfl) | ((first | apply qt_quoT rfl rfl rfl ?hi ?om); (case om => (intro hg; first | omega | (simp only [Bool.or_eq_false_iff, Bool.or_eq_true, Bool.and_eq_true, Bool.and_eq_false_iff, Bool.not_eq_true', Bool.not_eq_false', Bool.not_eq_true, Bool.not_eq_false, decide_eq_true_eq, decide_eq_false_iff_not, Bool.not_not, beq_iff_eq, bne_iff_ne, Bool.beq_eq_decide_eq] at hg; omega)))) | ((first | apply qt_rem rfl rfl rfl ?hi ?om | apply qt_quo rfl rfl rfl ?hi ?om | apply qt_shr rfl rfl rfl ?hi ?om | apply qt_shl rfl rfl rfl ?hi ?om); (case om => (intro hg; first | omega | (simp only [Bool.or_eq_false_iff, Bool.or_eq_true, Bool.and_eq_true, Bool.and_eq_false_iff, Bool.not_eq_true', Bool.not_eq_false', Bool.not_eq_true, Bool.not_eq_false, decide_eq_true_eq, decide_eq_false_iff_not, Bool.not_not, beq_iff_eq, bne_iff_ne, Bool.beq_eq_decide_eq] at hg; omega))))); (case hi => (intro h; (repeat' (first | with_reducible exact alln | with_reducible refine allc ?_ ?_ | with_reducible refine andi ?_ ?_)); all_goals (first | with_reducible rfl | with_reducible exact h | with_reducible exact andl h | with_reducible exact andr h | with_reducible exact andl (andl h) | (simp only [h, Bool.and_self]; done) | (simp [h]; done) | (simp_all; done)))))))
          | (refine KO.box rfl rfl rfl rfl rfl rfl ?_; intro _ _)
          | (refine KO.alloc rfl rfl rfl rfl rfl rfl ?_; intro _ _)
          | (refine KO.buildSlice rfl rfl rfl rfl rfl rfl rfl rfl rfl rfl rfl rfl rfl rfl ?_; intro _ _)
          | ((first | apply KO.store (i := 0) rfl rfl rfl rfl rfl rfl rfl rfl ?hl rfl ?hw ?ho ?hs | apply KO.store (i := 1) rfl rfl rfl rfl rfl rfl rfl rfl ?hl rfl ?hw ?ho ?hs | apply KO.store (i := 2) rfl rfl rfl rfl rfl rfl rfl rfl ?hl rfl ?hw ?ho ?hs | apply KO.store (i := 3) rfl rfl rfl rfl rfl rfl rfl rfl ?hl rfl ?hw ?ho ?hs | apply KO.store (i := 4) rfl rfl rfl rfl rfl rfl rfl rfl ?hl rfl ?hw ?ho ?hs | apply KO.store (i := 5) rfl rfl rfl rfl rfl rfl rfl rfl ?hl rfl ?hw ?ho ?hs | apply KO.store (i := 6) rfl rfl rfl rfl rfl rfl rfl rfl ?hl rfl ?hw ?ho ?hs | apply KO.store (i := 7) rfl rfl rfl rfl rfl rfl rfl rfl ?hl rfl ?hw ?ho ?hs); (case hl => rfl); (case hw => rfl); (case ho => rfl); (case hs => rfl))
          | (refine KW.cond rfl ?_ ?_ <;> (intro hc; try simp only [Bool.or_eq_false_iff, Bool.or_eq_true, Bool.and_eq_true, Bool.and_eq_false_iff, Bool.not_eq_true', Bool.not_eq_false', Bool.not_eq_true, Bool.not_eq_false, decide_eq_true_eq, decide_eq_false_iff_not, Bool.not_not, beq_iff_eq, bne_iff_ne, Bool.beq_eq_decide_eq] at hc))
          | exact absurd trivial ‹¬True›
          | (exfalso; omega)
          | ((first | apply KO.val (g := true) rfl rfl rfl | apply KD.val (g := true) rfl rfl rfl | apply KDE.val (g := true) rfl rfl rfl | apply KDE.val rfl rfl rfl | apply KDH.val0 (g := true) rfl rfl rfl | apply KDH.val1 (g := true) rfl rfl rfl | apply KO.val rfl rfl rfl | apply KD.val rfl rfl rfl | apply KDH.val0 rfl rfl rfl | apply KO.valIn rfl rfl rfl | apply KD.valIn rfl rfl rfl); (apply qt_loadN_cel rfl rfl ?hi rfl rfl rfl ?hl ?hc); (case hc => first | exact fun _ => ((fun j v hv => (cel2 hz1 h1 j v hv).mono (fun _ hq => List.mem_cons_of_mem _ (List.mem_cons_of_mem _ (List.mem_cons_of_mem _ hq))))) | exact fun _ => ((fun j v hv => (cel2 hl1 h2 j v hv).mono (fun _ hq => List.mem_cons_of_mem _ (List.mem_cons_of_mem _ (List.mem_cons_of_mem _ hq))))) | exact fun _ => ((cel16 hc1 hq).mono (fun _ hq => by cases hq)) | exact fun hg => ((fun j v hv => (cel2 hz1 h1 j v hv).mono (fun _ hq => List.mem_cons_of_mem _ (List.mem_cons_of_mem _ (List.mem_cons_of_mem _ hq))))) | exact fun hg => ((fun j v hv => (cel2 hl1 h2 j v hv).mono (fun _ hq => List.mem_cons_of_mem _ (List.mem_cons_of_mem _ (List.mem_cons_of_mem _ hq))))) | exact fun hg => ((cel16 hc1 hq).mono (fun _ hq => by cases hq))); (case hl => rfl); (case hi => (first | exact fun _ => rfl | (intro h; first | rfl | exact h | (simp [h]; done) | (simp_all; done)))))
          | ((first | apply KO.val (g := true) rfl rfl rfl | apply KD.val (g := true) rfl rfl rfl | apply KDE.val (g := true) rfl rfl rfl | apply KDE.val rfl rfl rfl | apply KDH.val0 (g := true) rfl rfl rfl | apply KDH.val1 (g := true) rfl rfl rfl | apply KO.val rfl rfl rfl | apply KD.val rfl rfl rfl | apply KDH.val0 rfl rfl rfl | apply KO.valIn rfl rfl rfl | apply KD.valIn rfl rfl rfl); (apply qt_load1_cel rfl rfl ?hi rfl rfl ?hc); (case hc => first | exact fun _ => ((fun j v hv => (cel2 hz1 h1 j v hv).mono (fun _ hq => List.mem_cons_of_mem _ (List.mem_cons_of_mem _ (List.mem_cons_of_mem _ hq))))) | exact fun _ => ((fun j v hv => (cel2 hl1 h2 j v hv).mono (fun _ hq => List.mem_cons_of_mem _ (List.mem_cons_of_mem _ (List.mem_cons_of_mem _ hq))))) | exact fun _ => ((cel16 hc1 hq).mono (fun _ hq => by cases hq)) | exact fun hg => ((fun j v hv => (cel2 hz1 h1 j v hv).mono (fun _ hq => List.mem_cons_of_mem _ (List.mem_cons_of_mem _ (List.mem_cons_of_mem _ hq))))) | exact fun hg => ((fun j v hv => (cel2 hl1 h2 j v hv).mono (fun _ hq => List.mem_cons_of_mem _ (List.mem_cons_of_mem _ (List.mem_cons_of_mem _ hq))))) | exact fun hg => ((cel16 hc1 hq).mono (fun _ hq => by cases hq))); (case hi => (first | exact fun _ => rfl | (intro h; first | rfl | exact h | (simp [h]; done) | (simp_all; done)))))
          | (exfalso; simp only [not_true_eq_false, false_or, or_self] at hc; omega)
          | (exact absurd rfl hc)
          | fail)
        refine KW.loop (fun j : Nat => j ≤ k) (fun j => ([(21, true, .int .i64 (j : Int)), (19, true, .pointer (some ⟨bm, 0, none⟩)), (7, true, .slice pz k cz)], maskC bm bw (nwO w h) w h (visF cs w h n [(x, y)]) ++ (φ ++ ψ))) (fun j => k - j) 0
          (Nat.zero_le _) (Le.permS (φ := (b5, cl [.int .i64 u, .int .i64 v] 23) :: (b4, cl [.int .i64 x, .int .i64 y] 23) :: (b3, cl [.int .i64 w, .int .i64 h, .slice p m c] 38) :: []) (by repeat' (first | exact FLe.nil _ | refine FLe.cons rfl rfl ?_)) (by classical exact List.perm_iff_count.2 (fun _ => by first | (simp only [List.count_append, List.count_cons, List.count_nil, List.append_assoc, List.cons_append, List.nil_append]; done) | (simp only [List.count_append, List.count_cons, List.count_nil, List.append_assoc, List.cons_append, List.nil_append]; omega)))) ?_
        intro j hj
        dsimp only
        by_cases hjk : j < k
        · have h1 := hge j hjk
          have h2 := hray j hjk
          obtain ⟨⟨cx, cy⟩, hcc⟩ : ∃ z, z = linC x y u v n j := ⟨_, rfl⟩
          rw [← hcc] at h1 h2
          have h3 := (visF_has (by simpa using ha) cx cy).2 h2
          obtain ⟨bz, oz, rfl, hz1⟩ := hsz.2 (by omega)
          repeat' (first
            | refine KW.seq ?_
            | refine KW.region ?_
            | refine KO.nil ?_
            | refine At.then_normal ?_
            | refine KW.skip ?_
            | refine KW.ret ?_
            | refine At.then_ret ?_
            | refine KW.block ?_
            | refine KW.exit ?_
            | refine At.block_normal ?_
            | refine At.block_ret ?_
            | refine At.loop_ret ?_
            | refine At.then_exit ?_
            | refine At.block_here rfl ?_
            | refine At.block_there rfl ?_
            | refine At.loop_exit ?_
            | refine At.cut_ret ?_
            | refine At.cutA_ret ?_
            | refine At.cutA_exit ?_
            | refine At.cut_exit ?_
            | (refine At.cut_same ?_; repeat' (first | exact FLe.nil _ | refine FLe.cons rfl rfl ?_))
            | refine KW.cond_t rfl (by first | with_reducible rfl | decide) ?_
            | refine KW.cond_f rfl (by first | with_reducible rfl | decide) ?_
            | refine KW.draw 0 (by decide +kernel) ?_
            | refine KW.drawU rfl (by decide +kernel) ?_
            | refine KD.zero ?_
            | refine KD.skip' rfl (by first | with_reducible rfl | decide) rfl rfl ?_
            | refine KO.skip' rfl (by first | with_reducible rfl | decide) rfl rfl ?_
            | refine KO.skip0' rfl (by first | with_reducible rfl | decide) rfl ?_
            | refine KO.skipIn rfl (by first | with_reducible rfl | decide) rfl rfl ?_
            | refine KD.skipIn rfl (by first | with_reducible rfl | decide) rfl rfl ?_
            | ((first | apply KO.val rfl rfl rfl ?kq ?_ | apply KO.valIn rfl rfl rfl ?kq ?_ | apply KD.val rfl rfl rfl ?kq ?_ | apply KD.valIn rfl rfl rfl ?kq ?_); (case kq => ((first | ((first | apply qt_add rfl rfl rfl ?hi ?om | apply qt_sub rfl rfl rfl ?hi ?om | apply qt_mul rfl rfl rfl ?hi ?om | apply qt_remN rfl rfl rfl ?hi ?om | apply qt_quoN rfl rfl rfl ?hi ?om | apply qt_addU rfl rfl rfl ?hi ?om | apply qt_subU rfl rfl rfl ?hi ?om | apply qt_mulU rfl rfl rfl ?hi ?om | apply qt_quoU rfl rfl rfl ?hi ?om | apply qt_convI rfl rfl rfl rfl ?hi ?om | apply qt_convU rfl rfl rfl rfl ?hi ?om | apply qt_indexAddr_arr rfl rfl rfl ?hi rfl rfl ?om | apply qt_indexAddr_slice rfl rfl rfl ?hi rfl rfl ?om | apply qt_sliceL rfl rfl rfl ?hi rfl rfl ?om | apply qt_sliceH rfl rfl rfl ?hi rfl rfl ?om | apply qt_sliceLH rfl rfl rfl rfl ?hi rfl rfl ?om | apply qt_sliceLHM rfl rfl rfl rfl rfl ?hi rfl rfl ?om | apply qt_sliceHM rfl rfl rfl rfl ?hi rfl rfl ?om); (case om => (intro hg; first | omega | (simp only [Bool.or_eq_false_iff, Bool.or_eq_true, Bool.and_eq_true, Bool.and_eq_false_iff, Bool.not_eq_true', Bool.not_eq_false', Bool.not_eq_true, Bool.not_eq_false, decide_eq_true_eq, decide_eq_false_iff_not, Bool.not_not, beq_iff_eq, bne_iff_ne, Bool.beq_eq_decide_eq] at hg; omega)))) | apply qt_ev rfl ?hi | ((first | apply qt_load1 rfl rfl ?hi rfl rfl ?hm ?hc | apply qt_loadN rfl rfl ?hi rfl rfl rfl ?hm ?hc); (case hm => repeat (first | exact List.Mem.head _ | apply List.Mem.tail _ | apply List.mem_append_right _)); (case hc => rfl)) | refine qt_callQ rfl rfl ?hi (fun hg => Has_t _ _ w h cx cy (nwO w h) _ bm bw true h3 (fun q hq => List.mem_append_left _ hq) n1 (by omega)) | apply qt_pick_t rfl rfl (by first | with_reducible rfl | decide) rfl ?hi | apply qt_pick_f rfl rfl (by first | with_reducible rfl | decide) rfl ?hi | ((first | apply qt_pick_and rfl rfl rfl ?hi ?pj | apply qt_pick_or rfl rfl rfl ?hi ?pj); (case pj => (intro h h2; first | with_reducible exact h2 | with_reducible exact andi h h2 | (rw [h2]; rfl) | (rw [h, h2]; rfl) | with_reducible rfl | (simp [h2]; done) | (simp_all; done)))) | apply qt_build rfl rfl ?hi rfl | apply qt_eqs rfl rfl rfl ?hi rfl (Or.inl rfl) | apply qt_nes rfl rfl rfl ?hi rfl (Or.inl rfl) | ((first | apply qt_quoT rfl rfl rfl ?hi ?om); (case om => (intro hg; first | omega | (simp only [Bool.or_eq_false_iff, Bool.or_eq_true, Bool.and_eq_true, Bool.and_eq_false_iff, Bool.not_eq_true', Bool.not_eq_false', Bool.not_eq_true, Bool.not_eq_false, decide_eq_true_eq, decide_eq_false_iff_not, Bool.not_not, beq_iff_eq, bne_iff_ne, Bool.beq_eq_decide_eq] at hg; omega)))) | ((first | apply qt_rem rfl rfl rfl ?hi ?om | apply qt_quo rfl rfl rfl ?hi ?om | apply qt_shr rfl rfl rfl ?hi ?om | apply qt_shl rfl rfl rfl ?hi ?om); (case om => (intro hg; first | omega | (simp only [Bool.or_eq_false_iff, Bool.or_eq_true, Bool.and_eq_true, Bool.and_eq_false_iff, Bool.not_eq_true', Bool.not_eq_false', Bool.not_eq_true, Bool.not_eq_false, decide_eq_true_eq, decide_eq_false_iff_not, Bool.not_not, beq_iff_eq, bne_iff_ne, Bool.beq_eq_decide_eq] at hg; omega))))); (case hi => (intro h; (repeat' (first | with_reducible exact alln | with_reducible refine allc ?_ ?_ | with_reducible refine andi ?_ ?_)); all_goals (first | with_reducible rfl | with_reducible exact h | with_reducible exact andl h | with_reducible exact andr h | with_reducible exact andl (andl h) | (simp only [h, Bool.and_self]; done) | (simp [h]; done) | (simp_all; done)))))))
            | (refine KO.box rfl rfl rfl rfl rfl rfl ?_; intro _ _)
            | (refine KO.alloc rfl rfl rfl rfl rfl rfl ?_; intro _ _)
            | (refine KO.buildSlice rfl rfl rfl rfl rfl rfl rfl rfl rfl rfl rfl rfl rfl rfl ?_; intro _ _)
            | ((first | apply KO.store (i := 0) rfl rfl rfl rfl rfl rfl rfl rfl ?hl rfl ?hw ?ho ?hs | apply KO.store (i := 1) rfl rfl rfl rfl rfl rfl rfl rfl ?hl rfl ?hw ?ho ?hs | apply KO.store (i := 2) rfl rfl rfl rfl rfl rfl rfl rfl ?hl rfl ?hw ?ho ?hs | apply KO.store (i := 3) rfl rfl rfl rfl rfl rfl rfl rfl ?hl rfl ?hw ?ho ?hs | apply KO.store (i := 4) rfl rfl rfl rfl rfl rfl rfl rfl ?hl rfl ?hw ?ho ?hs | apply KO.store (i := 5) rfl rfl rfl rfl rfl rfl rfl rfl ?hl rfl ?hw ?ho ?hs | apply KO.store (i := 6) rfl rfl rfl rfl rfl rfl rfl rfl ?hl rfl ?hw ?ho ?hs | apply KO.store (i := 7) rfl rfl rfl rfl rfl rfl rfl rfl ?hl rfl ?hw ?ho ?hs); (case hl => rfl); (case hw => rfl); (case ho => rfl); (case hs => rfl))
            | (refine KW.cond rfl ?_ ?_ <;> (intro hc; try simp only [Bool.or_eq_false_iff, Bool.or_eq_true, Bool.and_eq_true, Bool.and_eq_false_iff, Bool.not_eq_true', Bool.not_eq_false', Bool.not_eq_true, Bool.not_eq_false, decide_eq_true_eq, decide_eq_false_iff_not, Bool.not_not, beq_iff_eq, bne_iff_ne, Bool.beq_eq_decide_eq] at hc))
            | exact absurd trivial ‹¬True›
            | (exfalso; omega)
            | ((first | apply KO.val (g := true) rfl rfl rfl | apply KD.val (g := true) rfl rfl rfl | apply KDE.val (g := true) rfl rfl rfl | apply KDE.val rfl rfl rfl | apply KDH.val0 (g := true) rfl rfl rfl | apply KDH.val1 (g := true) rfl rfl rfl | apply KO.val rfl rfl rfl | apply KD.val rfl rfl rfl | apply KDH.val0 rfl rfl rfl | apply KO.valIn rfl rfl rfl | apply KD.valIn rfl rfl rfl); (apply qt_loadN_cel rfl rfl ?hi rfl rfl rfl ?hl ?hc); (case hc => first | exact fun _ => ((fun j v hv => (cel2 hz1 h1 j v hv).mono (fun _ hq => List.mem_cons_of_mem _ (List.mem_cons_of_mem _ (List.mem_cons_of_mem _ hq))))) | exact fun _ => ((fun j v hv => (cel2 hl1 h2 j v hv).mono (fun _ hq => List.mem_cons_of_mem _ (List.mem_cons_of_mem _ (List.mem_cons_of_mem _ hq))))) | exact fun _ => ((cel16 hc1 hq).mono (fun _ hq => by cases hq)) | exact fun hg => ((fun j v hv => (cel2 hz1 h1 j v hv).mono (fun _ hq => List.mem_cons_of_mem _ (List.mem_cons_of_mem _ (List.mem_cons_of_mem _ hq))))) | exact fun hg => ((fun j v hv => (cel2 hl1 h2 j v hv).mono (fun _ hq => List.mem_cons_of_mem _ (List.mem_cons_of_mem _ (List.mem_cons_of_mem _ hq))))) | exact fun hg => ((cel16 hc1 hq).mono (fun _ hq => by cases hq))); (case hl => rfl); (case hi => (first | exact fun _ => rfl | (intro h; first | rfl | exact h | (simp [h]; done) | (simp_all; done)))))
            | ((first | apply KO.val (g := true) rfl rfl rfl | apply KD.val (g := true) rfl rfl rfl | apply KDE.val (g := true) rfl rfl rfl | apply KDE.val rfl rfl rfl | apply KDH.val0 (g := true) rfl rfl rfl | apply KDH.val1 (g := true) rfl rfl rfl | apply KO.val rfl rfl rfl | apply KD.val rfl rfl rfl | apply KDH.val0 rfl rfl rfl | apply KO.valIn rfl rfl rfl | apply KD.valIn rfl rfl rfl); (apply qt_load1_cel rfl rfl ?hi rfl rfl ?hc); (case hc => first | exact fun _ => ((fun j v hv => (cel2 hz1 h1 j v hv).mono (fun _ hq => List.mem_cons_of_mem _ (List.mem_cons_of_mem _ (List.mem_cons_of_mem _ hq))))) | exact fun _ => ((fun j v hv => (cel2 hl1 h2 j v hv).mono (fun _ hq => List.mem_cons_of_mem _ (List.mem_cons_of_mem _ (List.mem_cons_of_mem _ hq))))) | exact fun _ => ((cel16 hc1 hq).mono (fun _ hq => by cases hq)) | exact fun hg => ((fun j v hv => (cel2 hz1 h1 j v hv).mono (fun _ hq => List.mem_cons_of_mem _ (List.mem_cons_of_mem _ (List.mem_cons_of_mem _ hq))))) | exact fun hg => ((fun j v hv => (cel2 hl1 h2 j v hv).mono (fun _ hq => List.mem_cons_of_mem _ (List.mem_cons_of_mem _ (List.mem_cons_of_mem _ hq))))) | exact fun hg => ((cel16 hc1 hq).mono (fun _ hq => by cases hq))); (case hi => (first | exact fun _ => rfl | (intro h; first | rfl | exact h | (simp [h]; done) | (simp_all; done)))))
            | (exfalso; simp only [not_true_eq_false, false_or, or_self] at hc; omega)
            | (exact absurd rfl hc)
            | ((first | apply KO.val (g := true) rfl rfl rfl | apply KD.val (g := true) rfl rfl rfl | apply KDE.val (g := true) rfl rfl rfl | apply KDE.val rfl rfl rfl | apply KDH.val0 (g := true) rfl rfl rfl | apply KDH.val1 (g := true) rfl rfl rfl | apply KO.val rfl rfl rfl | apply KD.val rfl rfl rfl | apply KDH.val0 rfl rfl rfl | apply KO.valIn rfl rfl rfl | apply KD.valIn rfl rfl rfl); (apply qt_loadN_cel rfl rfl ?hi rfl rfl rfl ?hl ?hc); (case hc => first | exact fun _ => ((fun j v hv => (cel2 hz1 h1 j v hv).mono (fun _ hq => List.mem_append_right _ hq))) | exact fun hg => ((fun j v hv => (cel2 hz1 h1 j v hv).mono (fun _ hq => List.mem_append_right _ hq)))); (case hl => rfl); (case hi => (first | exact fun _ => rfl | (intro h; first | rfl | exact h | (simp [h]; done) | (simp_all; done)))))
            | ((first | apply KO.val (g := true) rfl rfl rfl | apply KD.val (g := true) rfl rfl rfl | apply KDE.val (g := true) rfl rfl rfl | apply KDE.val rfl rfl rfl | apply KDH.val0 (g := true) rfl rfl rfl | apply KDH.val1 (g := true) rfl rfl rfl | apply KO.val rfl rfl rfl | apply KD.val rfl rfl rfl | apply KDH.val0 rfl rfl rfl | apply KO.valIn rfl rfl rfl | apply KD.valIn rfl rfl rfl); (apply qt_load1_cel rfl rfl ?hi rfl rfl ?hc); (case hc => first | exact fun _ => ((fun j v hv => (cel2 hz1 h1 j v hv).mono (fun _ hq => List.mem_append_right _ hq))) | exact fun hg => ((fun j v hv => (cel2 hz1 h1 j v hv).mono (fun _ hq => List.mem_append_right _ hq)))); (case hi => (first | exact fun _ => rfl | (intro h; first | rfl | exact h | (simp [h]; done) | (simp_all; done)))))
            | fail)
          exact At.loop_on (j + 1) (by omega) (by omega) (Le.perm (by repeat' (first | exact FLe.nil _ | refine FLe.cons rfl rfl ?_)) (by classical exact List.perm_iff_count.2 (fun _ => by first | (simp only [List.count_append, List.count_cons, List.count_nil, List.append_assoc, List.cons_append, List.nil_append]; done) | (simp only [List.count_append, List.count_cons, List.count_nil, List.append_assoc, List.cons_append, List.nil_append]; omega))))
        · have htr := trivial
          repeat' (first
            | refine KW.seq ?_
            | refine KW.region ?_
            | refine KO.nil ?_
            | refine At.then_normal ?_
            | refine KW.skip ?_
            | refine KW.ret ?_
            | refine At.then_ret ?_
            | refine KW.block ?_
            | refine KW.exit ?_
            | refine At.block_normal ?_
            | refine At.block_ret ?_
            | refine At.loop_ret ?_
            | refine At.then_exit ?_
            | refine At.block_here rfl ?_
            | refine At.block_there rfl ?_
            | refine At.loop_exit ?_
            | refine At.cut_ret ?_
            | refine At.cutA_ret ?_
            | refine At.cutA_exit ?_
            | refine At.cut_exit ?_
            | (refine At.cut_same ?_; repeat' (first | exact FLe.nil _ | refine FLe.cons rfl rfl ?_))
            | refine KW.cond_t rfl (by first | with_reducible rfl | decide) ?_
            | refine KW.cond_f rfl (by first | with_reducible rfl | decide) ?_
            | refine KW.draw 0 (by decide +kernel) ?_
            | refine KW.drawU rfl (by decide +kernel) ?_
            | refine KD.zero ?_
            | refine KD.skip' rfl (by first | with_reducible rfl | decide) rfl rfl ?_
            | refine KO.skip' rfl (by first | with_reducible rfl | decide) rfl rfl ?_
            | refine KO.skip0' rfl (by first | with_reducible rfl | decide) rfl ?_
            | refine KO.skipIn rfl (by first | with_reducible rfl | decide) rfl rfl ?_
            | refine KD.skipIn rfl (by first | with_reducible rfl | decide) rfl rfl ?_
            | ((first | apply KO.val rfl rfl rfl ?kq ?_ | apply KO.valIn rfl rfl rfl ?kq ?_ | apply KD.val rfl rfl rfl ?kq ?_ | apply KD.valIn rfl rfl rfl ?kq ?_); (case kq => ((first | ((first | apply qt_add rfl rfl rfl ?hi ?om | apply qt_sub rfl rfl rfl ?hi ?om | apply qt_mul rfl rfl rfl ?hi ?om | apply qt_remN rfl rfl rfl ?hi ?om | apply qt_quoN rfl rfl rfl ?hi ?om | apply qt_addU rfl rfl rfl ?hi ?om | apply qt_subU rfl rfl rfl ?hi ?om | apply qt_mulU rfl rfl rfl ?hi ?om | apply qt_quoU rfl rfl rfl ?hi ?om | apply qt_convI rfl rfl rfl rfl ?hi ?om | apply qt_convU rfl rfl rfl rfl ?hi ?om | apply qt_indexAddr_arr rfl rfl rfl ?hi rfl rfl ?om | apply qt_indexAddr_slice rfl rfl rfl ?hi rfl rfl ?om | apply qt_sliceL rfl rfl rfl ?hi rfl rfl ?om | apply qt_sliceH rfl rfl rfl ?hi rfl rfl ?om | apply qt_sliceLH rfl rfl rfl rfl ?hi rfl rfl ?om | apply qt_sliceLHM rfl rfl rfl rfl rfl ?hi rfl rfl ?om | apply qt_sliceHM rfl rfl rfl rfl ?hi rfl rfl ?om); (case om => (intro hg; first | omega | (simp only [Bool.or_eq_false_iff, Bool.or_eq_true, Bool.and_eq_true, Bool.and_eq_false_iff, Bool.not_eq_true', Bool.not_eq_false', Bool.not_eq_true, Bool.not_eq_false, decide_eq_true_eq, decide_eq_false_iff_not, Bool.not_not, beq_iff_eq, bne_iff_ne, Bool.beq_eq_decide_eq] at hg; omega)))) | apply qt_ev rfl ?hi | ((first | apply qt_load1 rfl rfl ?hi rfl rfl ?hm ?hc | apply qt_loadN rfl rfl ?hi rfl rfl rfl ?hm ?hc); (case hm => repeat (first | exact List.Mem.head _ | apply List.Mem.tail _ | apply List.mem_append_right _)); (case hc => rfl)) | refine qt_call rfl rfl ?hi (fun hg => awake_p) | apply qt_pick_t rfl rfl (by first | with_reducible rfl | decide) rfl ?hi | apply qt_pick_f rfl rfl (by first | with_reducible rfl | decide) rfl ?hi | ((first | apply qt_pick_and rfl rfl rfl ?hi ?pj | apply qt_pick_or rfl rfl rfl ?hi ?pj); (case pj => (intro h h2; first | with_reducible exact h2 | with_reducible exact andi h h2 | (rw [h2]; rfl) | (rw [h, h2]; rfl) | with_reducible rfl | (simp [h2]; done) | (simp_all; done)))) | apply qt_build rfl rfl ?hi rfl | apply qt_eqs rfl rfl rfl ?hi rfl (Or.inl rfl) | apply qt_nes rfl rfl rfl ?hi rfl (Or.inl rfl) | ((first | apply qt_quoT rfl rfl rfl ?hi ?om); (case om => (intro hg; first | omega | (simp only [Bool.or_eq_false_iff, Bool.or_eq_true, Bool.and_eq_true, Bool.and_eq_false_iff, Bool.not_eq_true', Bool.not_eq_false', Bool.not_eq_true, Bool.not_eq_false, decide_eq_true_eq, decide_eq_false_iff_not, Bool.not_not, beq_iff_eq, bne_iff_ne, Bool.beq_eq_decide_eq] at hg; omega)))) | ((first | apply qt_rem rfl rfl rfl ?hi ?om | apply qt_quo rfl rfl rfl ?hi ?om | apply qt_shr rfl rfl rfl ?hi ?om | apply qt_shl rfl rfl rfl ?hi ?om); (case om => (intro hg; first | omega | (simp only [Bool.or_eq_false_iff, Bool.or_eq_true, Bool.and_eq_true, Bool.and_eq_false_iff, Bool.not_eq_true', Bool.not_eq_false', Bool.not_eq_true, Bool.not_eq_false, decide_eq_true_eq, decide_eq_false_iff_not, Bool.not_not, beq_iff_eq, bne_iff_ne, Bool.beq_eq_decide_eq] at hg; omega))))); (case hi => (intro h; (repeat' (first | with_reducible exact alln | with_reducible refine allc ?_ ?_ | with_reducible refine andi ?_ ?_)); all_goals (first | with_reducible rfl | with_reducible exact h | with_reducible exact andl h | with_reducible exact andr h | with_reducible exact andl (andl h) | (simp only [h, Bool.and_self]; done) | (simp [h]; done) | (simp_all; done)))))))
            | (refine KO.box rfl rfl rfl rfl rfl rfl ?_; intro _ _)
            | (refine KO.alloc rfl rfl rfl rfl rfl rfl ?_; intro _ _)
            | (refine KO.buildSlice rfl rfl rfl rfl rfl rfl rfl rfl rfl rfl rfl rfl rfl rfl ?_; intro _ _)
            | ((first | apply KO.store (i := 0) rfl rfl rfl rfl rfl rfl rfl rfl ?hl rfl ?hw ?ho ?hs | apply KO.store (i := 1) rfl rfl rfl rfl rfl rfl rfl rfl ?hl rfl ?hw ?ho ?hs | apply KO.store (i := 2) rfl rfl rfl rfl rfl rfl rfl rfl ?hl rfl ?hw ?ho ?hs | apply KO.store (i := 3) rfl rfl rfl rfl rfl rfl rfl rfl ?hl rfl ?hw ?ho ?hs | apply KO.store (i := 4) rfl rfl rfl rfl rfl rfl rfl rfl ?hl rfl ?hw ?ho ?hs | apply KO.store (i := 5) rfl rfl rfl rfl rfl rfl rfl rfl ?hl rfl ?hw ?ho ?hs | apply KO.store (i := 6) rfl rfl rfl rfl rfl rfl rfl rfl ?hl rfl ?hw ?ho ?hs | apply KO.store (i := 7) rfl rfl rfl rfl rfl rfl rfl rfl ?hl rfl ?hw ?ho ?hs); (case hl => rfl); (case hw => rfl); (case ho => rfl); (case hs => rfl))
            | (refine KW.cond rfl ?_ ?_ <;> (intro hc; try simp only [Bool.or_eq_false_iff, Bool.or_eq_true, Bool.and_eq_true, Bool.and_eq_false_iff, Bool.not_eq_true', Bool.not_eq_false', Bool.not_eq_true, Bool.not_eq_false, decide_eq_true_eq, decide_eq_false_iff_not, Bool.not_not, beq_iff_eq, bne_iff_ne, Bool.beq_eq_decide_eq] at hc))
            | exact absurd trivial ‹¬True›
            | (exfalso; omega)
            | ((first | apply KO.val (g := true) rfl rfl rfl | apply KD.val (g := true) rfl rfl rfl | apply KDE.val (g := true) rfl rfl rfl | apply KDE.val rfl rfl rfl | apply KDH.val0 (g := true) rfl rfl rfl | apply KDH.val1 (g := true) rfl rfl rfl | apply KO.val rfl rfl rfl | apply KD.val rfl rfl rfl | apply KDH.val0 rfl rfl rfl | apply KO.valIn rfl rfl rfl | apply KD.valIn rfl rfl rfl); (apply qt_loadN_cel rfl rfl ?hi rfl rfl rfl ?hl ?hc); (case hc => first | exact fun _ => ((fun j v hv => (cel2 hz1 h1 j v hv).mono (fun _ hq => List.mem_cons_of_mem _ (List.mem_cons_of_mem _ (List.mem_cons_of_mem _ hq))))) | exact fun _ => ((fun j v hv => (cel2 hl1 h2 j v hv).mono (fun _ hq => List.mem_cons_of_mem _ (List.mem_cons_of_mem _ (List.mem_cons_of_mem _ hq))))) | exact fun _ => ((cel16 hc1 hq).mono (fun _ hq => by cases hq)) | exact fun hg => ((fun j v hv => (cel2 hz1 h1 j v hv).mono (fun _ hq => List.mem_cons_of_mem _ (List.mem_cons_of_mem _ (List.mem_cons_of_mem _ hq))))) | exact fun hg => ((fun j v hv => (cel2 hl1 h2 j v hv).mono (fun _ hq => List.mem_cons_of_mem _ (List.mem_cons_of_mem _ (List.mem_cons_of_mem _ hq))))) | exact fun hg => ((cel16 hc1 hq).mono (fun _ hq => by cases hq))); (case hl => rfl); (case hi => (first | exact fun _ => rfl | (intro h; first | rfl | exact h | (simp [h]; done) | (simp_all; done)))))
            | ((first | apply KO.val (g := true) rfl rfl rfl | apply KD.val (g := true) rfl rfl rfl | apply KDE.val (g := true) rfl rfl rfl | apply KDE.val rfl rfl rfl | apply KDH.val0 (g := true) rfl rfl rfl | apply KDH.val1 (g := true) rfl rfl rfl | apply KO.val rfl rfl rfl | apply KD.val rfl rfl rfl | apply KDH.val0 rfl rfl rfl | apply KO.valIn rfl rfl rfl | apply KD.valIn rfl rfl rfl); (apply qt_load1_cel rfl rfl ?hi rfl rfl ?hc); (case hc => first | exact fun _ => ((fun j v hv => (cel2 hz1 h1 j v hv).mono (fun _ hq => List.mem_cons_of_mem _ (List.mem_cons_of_mem _ (List.mem_cons_of_mem _ hq))))) | exact fun _ => ((fun j v hv => (cel2 hl1 h2 j v hv).mono (fun _ hq => List.mem_cons_of_mem _ (List.mem_cons_of_mem _ (List.mem_cons_of_mem _ hq))))) | exact fun _ => ((cel16 hc1 hq).mono (fun _ hq => by cases hq)) | exact fun hg => ((fun j v hv => (cel2 hz1 h1 j v hv).mono (fun _ hq => List.mem_cons_of_mem _ (List.mem_cons_of_mem _ (List.mem_cons_of_mem _ hq))))) | exact fun hg => ((fun j v hv => (cel2 hl1 h2 j v hv).mono (fun _ hq => List.mem_cons_of_mem _ (List.mem_cons_of_mem _ (List.mem_cons_of_mem _ hq))))) | exact fun hg => ((cel16 hc1 hq).mono (fun _ hq => by cases hq))); (case hi => (first | exact fun _ => rfl | (intro h; first | rfl | exact h | (simp [h]; done) | (simp_all; done)))))
            | (exfalso; simp only [not_true_eq_false, false_or, or_self] at hc; omega)
            | (exact absurd rfl hc)
            | ((first | apply KO.val (g := true) rfl rfl rfl | apply KD.val (g := true) rfl rfl rfl | apply KDE.val (g := true) rfl rfl rfl | apply KDE.val rfl rfl rfl | apply KDH.val0 (g := true) rfl rfl rfl | apply KDH.val1 (g := true) rfl rfl rfl | apply KO.val rfl rfl rfl | apply KD.val rfl rfl rfl | apply KDH.val0 rfl rfl rfl | apply KO.valIn rfl rfl rfl | apply KD.valIn rfl rfl rfl); (apply qt_loadN_cel rfl rfl ?hi rfl rfl rfl ?hl ?hc); (case hc => first | exact fun _ => ((fun j v hv => (cel2 hz1 h1 j v hv).mono (fun _ hq => List.mem_append_right _ hq))) | exact fun hg => ((fun j v hv => (cel2 hz1 h1 j v hv).mono (fun _ hq => List.mem_append_right _ hq)))); (case hl => rfl); (case hi => (first | exact fun _ => rfl | (intro h; first | rfl | exact h | (simp [h]; done) | (simp_all; done)))))
            | ((first | apply KO.val (g := true) rfl rfl rfl | apply KD.val (g := true) rfl rfl rfl | apply KDE.val (g := true) rfl rfl rfl | apply KDE.val rfl rfl rfl | apply KDH.val0 (g := true) rfl rfl rfl | apply KDH.val1 (g := true) rfl rfl rfl | apply KO.val rfl rfl rfl | apply KD.val rfl rfl rfl | apply KDH.val0 rfl rfl rfl | apply KO.valIn rfl rfl rfl | apply KD.valIn rfl rfl rfl); (apply qt_load1_cel rfl rfl ?hi rfl rfl ?hc); (case hc => first | exact fun _ => ((fun j v hv => (cel2 hz1 h1 j v hv).mono (fun _ hq => List.mem_append_right _ hq))) | exact fun hg => ((fun j v hv => (cel2 hz1 h1 j v hv).mono (fun _ hq => List.mem_append_right _ hq)))); (case hi => (first | exact fun _ => rfl | (intro h; first | rfl | exact h | (simp [h]; done) | (simp_all; done)))))
            | fail)
          ((first | apply At.done_ret | apply At.done_normal); (focus (repeat' (first | exact ResVs.nil' | apply ResVs.cons' | exact ResV.tmp' rfl | (apply ResV.cell1 rfl ?hm rfl rfl ?hc; (case hm => repeat (first | exact List.Mem.head _ | apply List.Mem.tail _ | apply List.mem_append_right _)); (case hc => rfl)) | (apply ResV.cellN rfl ?hm rfl rfl rfl ?hc; (case hm => repeat (first | exact List.Mem.head _ | apply List.Mem.tail _ | apply List.mem_append_right _)); (case hc => rfl))))); dsimp only [resVal])
      · ((first | apply At.done_ret | apply At.done_normal); (focus (repeat' (first | exact ResVs.nil' | apply ResVs.cons' | exact ResV.tmp' rfl | (apply ResV.cell1 rfl ?hm rfl rfl ?hc; (case hm => repeat (first | exact List.Mem.head _ | apply List.Mem.tail _ | apply List.mem_append_right _)); (case hc => rfl)) | (apply ResV.cellN rfl ?hm rfl rfl rfl ?hc; (case hm => repeat (first | exact List.Mem.head _ | apply List.Mem.tail _ | apply List.mem_append_right _)); (case hc => rfl))))); dsimp only [resVal])
theorem SightEnds_c (β : Nat → Option Obj) (vs : List Value) (hrd : RdVs Try.prog β [38, 23, 23] vs) : Go.K.PureB Try.prog 5 vs.toArray β (.bool true) := by
  obtain ⟨va0, vr0, rfl, ha0, hrd⟩ := hrd.cons
  obtain ⟨va1, vr1, rfl, ha1, hrd⟩ := hrd.cons
  obtain ⟨va2, vr2, rfl, ha2, hrd⟩ := hrd.cons
  obtain rfl := hrd.nil
  obtain ⟨vc0, rfl, hq0⟩ := rdV_agg (k := 8) (ts := [3, 3, 36]) ha0 (by kernel_rfl) (by kernel_rfl)
  obtain ⟨vl0_0, vm0_0, rfl, hl0_0, hq0⟩ := hq0.cons
  obtain ⟨vl0_1, vm0_1, rfl, hl0_1, hq0⟩ := hq0.cons
  obtain ⟨vl0_2, vm0_2, rfl, hl0_2, hq0⟩ := hq0.cons
  obtain rfl := hq0.nil
  obtain ⟨w, rfl, hb_w⟩ := rd_i64 Try.underlying3 hl0_0
  obtain ⟨h, rfl, hb_h⟩ := rd_i64 Try.underlying3 hl0_1
  obtain ⟨cs_p, cs_m, cs_c, cs_xs, rfl, hs_cs, he_cs⟩ := rd_slice (k := 8) (ts := [50]) Try.underlying36 (by kernel_rfl) (by kernel_rfl) hl0_2
  obtain ⟨vc1, rfl, hq1⟩ := rdV_agg (k := 8) (ts := [3, 3]) ha1 (by kernel_rfl) (by kernel_rfl)
  obtain ⟨vl1_0, vm1_0, rfl, hl1_0, hq1⟩ := hq1.cons
  obtain ⟨vl1_1, vm1_1, rfl, hl1_1, hq1⟩ := hq1.cons
  obtain rfl := hq1.nil
  obtain ⟨x, rfl, hb_x⟩ := rd_i64 Try.underlying3 hl1_0
  obtain ⟨y, rfl, hb_y⟩ := rd_i64 Try.underlying3 hl1_1
  obtain ⟨vc2, rfl, hq2⟩ := rdV_agg (k := 8) (ts := [3, 3]) ha2 (by kernel_rfl) (by kernel_rfl)
  obtain ⟨vl2_0, vm2_0, rfl, hl2_0, hq2⟩ := hq2.cons
  obtain ⟨vl2_1, vm2_1, rfl, hl2_1, hq2⟩ := hq2.cons
  obtain rfl := hq2.nil
  obtain ⟨u, rfl, hb_u⟩ := rd_i64 Try.underlying3 hl2_0
  obtain ⟨v, rfl, hb_v⟩ := rd_i64 Try.underlying3 hl2_1
  obtain ⟨l, hf⟩ := rd_shorts Try.underlying50 (by kernel_rfl) hs_cs he_cs
  exact SightEnds_p β w h x y u v _ _ _ l hf
set_option maxRecDepth 100000 in
theorem SightEnds_lifted (os : Os) (started : os.Started) (H : Type) (enc : TypeId × Value → H) :
    ReturnsInHanded {} Try.checked os 5 .any (Rows.sightEndsSpec.pre6 enc Try.prog Try.f5 Rows.sightEndsRow.domain false) (Rows.sightEndsSpec.post enc Try.prog Try.f5 false true false false) :=
  law_lift (C := Try.checked) Try.own started (by kernel_rfl) Try.func5
    (ChangeSpec.witness6 (enc := enc) (C := Try.checked) false ⟨#[], #[.agg #[.int .i64 0, .int .i64 0, .slice none 0 0], .agg #[.int .i64 0, .int .i64 0], .agg #[.int .i64 0, .int .i64 0]], []⟩ 8 (by kernel_rfl) (by kernel_rfl) (by kernel_rfl) (by kernel_rfl))
    Try.laidOut rfl (by kernel_rfl) (by kernel_rfl) rfl Try.underlying4
    (fun ds h => by
      have h' : ds.length = 3 := h
      match ds, h' with
      | [_, _, _], _ => rfl)
    (fun β vs h => SightEnds_c β vs h)

theorem SightEnds_holds : Rows.SightEndsSaid :=
  OpenClaim.holds_of_wide 5 Try.f5 rfl rfl rfl rfl rfl rfl rfl ⟨rfl, rfl, rfl, rfl, rfl⟩ rfl rfl rfl rfl rfl (by kernel_rfl) Try.func5 (by kernel_rfl)
    (of_decide_eq_true (by kernel_rfl)) (by unfold Func.isWrapper; first | (rw [if_pos (by decide +kernel)]; kernel_rfl) | (rw [if_neg (by decide +kernel)]; exact ⟨rfl, rfl⟩))
    (fun os started H enc _ => SightEnds_lifted os started H enc)
end Go.Proofs.Ytkoimmfgbepgcaa
