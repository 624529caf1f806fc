/- GeomFar: how far two cells lie apart. -/
import Derived.Test.YtfcnkfccjlbnhaaG4
namespace Go.Proofs.Ytfcnkfccjlbnhaa
open Go.K Go.ChangeShapes Go.WideShapes Go.ChangeAt Go.RowKit

set_option maxHeartbeats 1000000 in
theorem GeomFar_p (x y u v : Int) : Go.K.Pure Try.prog 4 #[.agg #[.int .i64 x, .int .i64 y], .agg #[.int .i64 u, .int .i64 v]] (.bool true) := by
  refine Tr.pure (Tr.of_body Try.tt (args := [.agg #[.int .i64 x, .int .i64 y], .agg #[.int .i64 u, .int .i64 v]]) (fr := [(0, true, .agg #[.int .i64 x, .int .i64 y]), (1, true, .agg #[.int .i64 u, .int .i64 v])]) Try.func4 rfl (by decide) rfl Try.ntmps4 rfl rfl ?_)
  intro E _
  repeat' (first
    | refine KW.seq ?_
    | refine KW.region ?_
    | refine KO.nil ?_
    | refine At.then_normal ?_
    | refine KW.skip ?_
    | refine KW.ret ?_
    | refine At.then_ret ?_
    | refine KW.block ?_
    | refine KW.exit ?_
    | refine At.block_normal ?_
    | refine At.block_ret ?_
    | refine At.loop_ret ?_
    | refine At.then_exit ?_
    | refine At.block_here rfl ?_
    | refine At.block_there rfl ?_
    | refine At.loop_exit ?_
    | refine KW.cond_true rfl ?_
    | refine KW.cond_false rfl ?_
    | refine KW.draw 0 (by decide +kernel) ?_
    | refine KW.drawU rfl (by decide +kernel) ?_
    | refine KD.zero ?_
    | refine KD.skip rfl rfl rfl ?_
    | refine KO.skip rfl rfl rfl ?_
    | refine KO.skip0 rfl rfl ?_
    | ((first | apply KO.val (g := true) rfl rfl rfl | apply KD.val (g := true) rfl rfl rfl); (((first | ((first | apply qt_add rfl rfl rfl ?hi ?om | apply qt_sub rfl rfl rfl ?hi ?om | apply qt_mul rfl rfl rfl ?hi ?om | apply qt_remN rfl rfl rfl ?hi ?om | apply qt_quoN rfl rfl rfl ?hi ?om); (case om => (intro _; omega))) | apply qt_ev rfl ?hi | (apply qt_load1 rfl rfl ?hi rfl rfl ?hm ?hc; (case hm => repeat (first | exact List.Mem.head _ | apply List.Mem.tail _)); (case hc => rfl)) | (apply qt_loadN rfl rfl ?hi rfl rfl rfl ?hm ?hc; (case hm => repeat (first | exact List.Mem.head _ | apply List.Mem.tail _)); (case hc => rfl)) | ((first | apply qt_indexAddr_arr rfl rfl rfl ?hi rfl rfl ?om | apply qt_indexAddr_slice rfl rfl rfl ?hi rfl rfl ?om); (case om => (intro _; omega))) | apply qt_call rfl rfl ?hi (fun hg => Far_p _ _ _ _) | apply qt_call rfl rfl ?hi (fun hg => Walk_p _ _ _ _) | apply qt_call rfl rfl ?hi (fun hg => rPlain_p _ _) | apply qt_call rfl rfl ?hi (fun hg => rFar_p _ _ _ _ (by simp_all)) | apply qt_call rfl rfl ?hi (fun hg => rWalk_p _ _ _ _ (by simp_all)) | apply qt_call rfl rfl ?hi (fun hg => awake_p) | apply qt_pick_true rfl rfl rfl ?hi | apply qt_pick_false rfl rfl rfl ?hi | ((first | apply qt_pick_and rfl rfl rfl ?hi ?pj | apply qt_pick_or rfl rfl rfl ?hi ?pj); (case pj => (intro h h2; first | exact h2 | (simp [h2]; done) | (simp_all; done)))) | apply qt_build rfl rfl ?hi rfl | apply qt_eqs rfl rfl rfl ?hi rfl (Or.inl rfl) | apply qt_nes rfl rfl rfl ?hi rfl (Or.inl rfl) | ((first | apply qt_rem rfl rfl rfl ?hi ?om | apply qt_quo rfl rfl rfl ?hi ?om | apply qt_shr rfl rfl rfl ?hi ?om | apply qt_shl rfl rfl rfl ?hi ?om); (case om => (intro _; omega)))); (case hi => exact fun _ => rfl))))
    | (refine KO.box rfl rfl rfl rfl rfl rfl ?_; intro _ _)
    | (refine KO.alloc rfl rfl rfl rfl rfl rfl ?_; intro _ _)
    | ((first | apply KO.store (i := 0) rfl rfl rfl rfl rfl rfl rfl rfl ?hl rfl ?hw ?ho ?hs | apply KO.store (i := 1) rfl rfl rfl rfl rfl rfl rfl rfl ?hl rfl ?hw ?ho ?hs | apply KO.store (i := 2) rfl rfl rfl rfl rfl rfl rfl rfl ?hl rfl ?hw ?ho ?hs | apply KO.store (i := 3) rfl rfl rfl rfl rfl rfl rfl rfl ?hl rfl ?hw ?ho ?hs | apply KO.store (i := 4) rfl rfl rfl rfl rfl rfl rfl rfl ?hl rfl ?hw ?ho ?hs | apply KO.store (i := 5) rfl rfl rfl rfl rfl rfl rfl rfl ?hl rfl ?hw ?ho ?hs | apply KO.store (i := 6) rfl rfl rfl rfl rfl rfl rfl rfl ?hl rfl ?hw ?ho ?hs | apply KO.store (i := 7) rfl rfl rfl rfl rfl rfl rfl rfl ?hl rfl ?hw ?ho ?hs); (case hl => rfl); (case hw => rfl); (case ho => rfl); (case hs => rfl))
    | ((first | apply KO.val rfl rfl rfl | apply KO.valIn rfl rfl rfl | apply KD.val rfl rfl rfl | apply KD.valIn rfl rfl rfl); (((first | ((first | apply qt_add rfl rfl rfl ?hi ?om | apply qt_sub rfl rfl rfl ?hi ?om | apply qt_mul rfl rfl rfl ?hi ?om | apply qt_remN rfl rfl rfl ?hi ?om | apply qt_quoN rfl rfl rfl ?hi ?om); (case om => (intro hg; first | omega | (simp only [Bool.or_eq_false_iff, Bool.or_eq_true, Bool.and_eq_true, Bool.and_eq_false_iff, Bool.not_eq_true', Bool.not_eq_false', Bool.not_eq_true, Bool.not_eq_false, decide_eq_true_eq, decide_eq_false_iff_not, Bool.not_not, beq_iff_eq, bne_iff_ne, Bool.beq_eq_decide_eq] at hg; omega)))) | apply qt_ev rfl ?hi | (apply qt_load1 rfl rfl ?hi rfl rfl ?hm ?hc; (case hm => repeat (first | exact List.Mem.head _ | apply List.Mem.tail _)); (case hc => rfl)) | (apply qt_loadN rfl rfl ?hi rfl rfl rfl ?hm ?hc; (case hm => repeat (first | exact List.Mem.head _ | apply List.Mem.tail _)); (case hc => rfl)) | ((first | apply qt_indexAddr_arr rfl rfl rfl ?hi rfl rfl ?om | apply qt_indexAddr_slice rfl rfl rfl ?hi rfl rfl ?om); (case om => (intro hg; first | omega | (simp only [Bool.or_eq_false_iff, Bool.or_eq_true, Bool.and_eq_true, Bool.and_eq_false_iff, Bool.not_eq_true', Bool.not_eq_false', Bool.not_eq_true, Bool.not_eq_false, decide_eq_true_eq, decide_eq_false_iff_not, Bool.not_not, beq_iff_eq, bne_iff_ne, Bool.beq_eq_decide_eq] at hg; omega)))) | apply qt_call rfl rfl ?hi (fun hg => Far_p _ _ _ _) | apply qt_call rfl rfl ?hi (fun hg => Walk_p _ _ _ _) | apply qt_call rfl rfl ?hi (fun hg => rPlain_p _ _) | apply qt_call rfl rfl ?hi (fun hg => rFar_p _ _ _ _ (by simp_all)) | apply qt_call rfl rfl ?hi (fun hg => rWalk_p _ _ _ _ (by simp_all)) | apply qt_call rfl rfl ?hi (fun hg => awake_p) | apply qt_pick_true rfl rfl rfl ?hi | apply qt_pick_false rfl rfl rfl ?hi | ((first | apply qt_pick_and rfl rfl rfl ?hi ?pj | apply qt_pick_or rfl rfl rfl ?hi ?pj); (case pj => (intro h h2; first | exact h2 | (simp [h2]; done) | (simp_all; done)))) | apply qt_build rfl rfl ?hi rfl | apply qt_eqs rfl rfl rfl ?hi rfl (Or.inl rfl) | apply qt_nes rfl rfl rfl ?hi rfl (Or.inl rfl) | ((first | apply qt_rem rfl rfl rfl ?hi ?om | apply qt_quo rfl rfl rfl ?hi ?om | apply qt_shr rfl rfl rfl ?hi ?om | apply qt_shl rfl rfl rfl ?hi ?om); (case om => (intro hg; first | omega | (simp only [Bool.or_eq_false_iff, Bool.or_eq_true, Bool.and_eq_true, Bool.and_eq_false_iff, Bool.not_eq_true', Bool.not_eq_false', Bool.not_eq_true, Bool.not_eq_false, decide_eq_true_eq, decide_eq_false_iff_not, Bool.not_not, beq_iff_eq, bne_iff_ne, Bool.beq_eq_decide_eq] at hg; omega))))); (case hi => (intro h; first | rfl | exact h | (simp only [List.all_cons, List.all_nil, id_eq, h, Bool.and_self]; done) | (simp [h]; done) | (simp_all; done))))))
    | (refine KW.cond rfl ?_ ?_ <;> (intro hc; try simp only [Bool.or_eq_false_iff, Bool.or_eq_true, Bool.and_eq_true, Bool.and_eq_false_iff, Bool.not_eq_true', Bool.not_eq_false', Bool.not_eq_true, Bool.not_eq_false, decide_eq_true_eq, decide_eq_false_iff_not, Bool.not_not, beq_iff_eq, bne_iff_ne, Bool.beq_eq_decide_eq] at hc)))
  all_goals ((first | apply At.done_ret | apply At.done_normal); (focus (repeat' (first | exact ResVs.nil' | apply ResVs.cons' | exact ResV.tmp' rfl | (apply ResV.cell1 rfl ?hm rfl rfl ?hc; (case hm => repeat (first | exact List.Mem.head _ | apply List.Mem.tail _)); (case hc => rfl)) | (apply ResV.cellN rfl ?hm rfl rfl rfl ?hc; (case hm => repeat (first | exact List.Mem.head _ | apply List.Mem.tail _)); (case hc => rfl))))); dsimp only [resVal])
  · have e1 : (smp x y && smp u v) = false := by rcases hc with h | h <;> simp [h]
    simp [gFar, gWalk, apX, apY, apE, e1]
  · simp [apE, hc.1, hc.2]

set_option maxRecDepth 100000 in
theorem GeomFar_lifted (os : Os) (started : os.Started) (H : Type) (enc : TypeId × Value → H) :
    ReturnsInHanded {} Try.checked os 4 .any (Rows.geomFarSpec.pre6 enc Try.prog Try.f4 Rows.geomFarRow.domain false) (Rows.geomFarSpec.post enc Try.prog Try.f4 false true false false) := by
  refine returnsInHanded_of_change (C := Try.checked) Try.own started (by kernel_rfl) Try.func4
    (ChangeSpec.witness6 (enc := enc) (C := Try.checked) false ⟨#[], #[.agg #[.int .i64 0, .int .i64 0], .agg #[.int .i64 0, .int .i64 0]], []⟩ 8 (by kernel_rfl) (by kernel_rfl) (by kernel_rfl) (by kernel_rfl)) ?_
  intro W base args ds gs before hval0 hW hcnd _
  have hval : ∀ (j : Nat) t v, Try.f4.params[j]? = some t → args[j]? = some v → Value.okWide Try.prog W .any base t v := hval0
  have hW' := hW
  obtain ⟨p, q, hA0, hV, rfl, hfz, hnd⟩ := hW
  have hA : DataW.TrodAll enc Try.prog W 0 (fun _ => true) true Try.f4.params.toList args.toList ds p := hA0
  rw [Try.params4] at hA hval
  obtain ⟨v0, v1, d0, d1, p0, p1, rfl, rfl, rfl, h0, h1⟩ := trodAll_two hA
  obtain ⟨rfl, rfl⟩ := trodVars_none hV
  obtain ⟨x, y, rfl, hx, hy⟩ := open_ints2 (ts := [3, 3]) (by kernel_rfl) (by kernel_rfl) (by kernel_rfl) (by kernel_rfl) (hval 0 25 v0 rfl rfl)
  obtain ⟨u, v, rfl, hu, hv⟩ := open_ints2 (ts := [3, 3]) (by kernel_rfl) (by kernel_rfl) (by kernel_rfl) (by kernel_rfl) (hval 1 25 v1 rfl rfl)
  clear hA0 hval0
  refine ((GeomFar_p x y u v).run W).mono fun e W' ⟨he, hb⟩ => ?_
  subst he
  exact ⟨_, rfl, law_frame Try.laidOut hW' rfl (by kernel_rfl) rfl Try.underlying4 rfl hb⟩

theorem GeomFar_holds : Rows.GeomFarSaid :=
  OpenClaim.holds_of_wide 4 Try.f4 rfl rfl rfl rfl rfl rfl rfl ⟨rfl, rfl, rfl, rfl, rfl⟩ rfl rfl rfl rfl rfl (by kernel_rfl) Try.func4 (by kernel_rfl)
    (of_decide_eq_true (by kernel_rfl)) (by unfold Func.isWrapper; first | (rw [if_pos (by decide +kernel)]; kernel_rfl) | (rw [if_neg (by decide +kernel)]; exact ⟨rfl, rfl⟩))
    (fun os started H enc _ => GeomFar_lifted os started H enc)
end Go.Proofs.Ytfcnkfccjlbnhaa
