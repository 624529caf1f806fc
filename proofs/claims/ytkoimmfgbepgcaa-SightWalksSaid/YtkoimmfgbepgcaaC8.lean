/- SightLine; fields that are handed in. -/
import Derived.Test.YtkoimmfgbepgcaaC7
namespace Go.Proofs.Ytkoimmfgbepgcaa
open Go Go.K Go.ChangeShapes Go.WideShapes Go.ChangeAt Go.RowKit

theorem shorts_of {ns : List Int} (h : ∀ x ∈ ns, (Lit.int .u16 x).wf = true) : ∃ l : List Nat, ns.map (Value.int .u16) = by16 l ∧ (∀ q ∈ l, q < 65536) ∧ l.length = ns.length := by
  have e1 : IntKind.u16.min = 0 := by decide
  have e2 : IntKind.u16.max = 65535 := by decide
  refine ⟨ns.map Int.toNat, ?_, ?_, by simp⟩
  · unfold by16
    rw [List.map_map]
    apply List.map_congr_left
    intro x hx
    have := h x hx
    simp only [Lit.wf, Bool.and_eq_true, decide_eq_true_eq] at this
    simp only [Function.comp, Value.int.injEq, true_and]
    omega
  · intro n hn
    obtain ⟨x, hx, rfl⟩ := List.mem_map.1 hn
    have := h x hx
    simp only [Lit.wf, Bool.and_eq_true, decide_eq_true_eq] at this
    omega
/-- Costs that were handed in. -/
structure FIn (β : Nat → Option Obj) (p : Option Addr) (m c : Nat) (l : List Nat) : Prop where
  len : l.length = m
  lt : ∀ q ∈ l, q < 65536
  sl : SL β [] 1 m (by16 l) p
  none : p = none → c = 0 ∧ m = 0
  cap : m ≤ c
  bd : m * 2 ≤ 140737488351232
theorem rd_shorts {β : Nat → Option Obj} {p : Option Addr} {m c : Nat} {xs : List Value} {P : Program} {e : TypeId} (he : P.underlying e = some (.int .u16)) (hb : P.bytesOf e = 2) (hs : SlR β [e].length m (P.bytesOf e) xs p c) (hr : ∀ i, i < m → RdL P β [e] ((xs.drop (i * [e].length)).take [e].length)) : ∃ l, FIn β p m c l := by
  rw [hb] at hs
  have hs' : SlR β 1 m 2 xs p c := hs
  obtain ⟨h1, h2, h3, h4, h5, h6⟩ := hs
  obtain ⟨ns, rfl, hns⟩ := ints_of he (m := m) (xs := xs) (by simpa using h5) (by simpa using hr)
  obtain ⟨l, e1, e2, e3⟩ := shorts_of hns
  refine ⟨l, ⟨by rw [e3]; simpa using h5, e2, ?_, fun h => ⟨h4 h, by have := h4 h; omega⟩, h1, by omega⟩⟩
  rw [← e1]
  exact SL.ofR (by omega) hs'

set_option maxHeartbeats 4000000 in
theorem SightLine_p (β : Nat → Option Obj) (x y u v : Int) : Go.K.PureB Try.prog 3 #[.agg #[.int .i64 x, .int .i64 y], .agg #[.int .i64 u, .int .i64 v]] β (.bool true) := by
  refine Tr.pureB ?_
  refine Tr.of_body Try.tt (args := [.agg #[.int .i64 x, .int .i64 y], .agg #[.int .i64 u, .int .i64 v]]) (fr := [(0, true, .agg #[.int .i64 x, .int .i64 y]), (1, true, .agg #[.int .i64 u, .int .i64 v])]) Try.func3 rfl (by decide) rfl Try.ntmps3 rfl rfl ?_
  intro E hE
  repeat' (first
    | refine KW.seq ?_
    | refine KW.region ?_
    | refine KO.nil ?_
    | refine At.then_normal ?_
    | refine KW.skip ?_
    | refine KW.ret ?_
    | refine At.then_ret ?_
    | refine KW.block ?_
    | refine KW.exit ?_
    | refine At.block_normal ?_
    | refine At.block_ret ?_
    | refine At.loop_ret ?_
    | refine At.then_exit ?_
    | refine At.block_here rfl ?_
    | refine At.block_there rfl ?_
    | refine At.loop_exit ?_
    | refine At.cut_ret ?_
    | refine At.cutA_ret ?_
    | refine At.cutA_exit ?_
    | refine At.cut_exit ?_
    | (refine At.cut_same ?_; repeat' (first | exact FLe.nil _ | refine FLe.cons rfl rfl ?_))
    | refine KW.cond_t rfl (by first | with_reducible rfl | decide) ?_
    | refine KW.cond_f rfl (by first | with_reducible rfl | decide) ?_
    | refine KW.draw 0 (by decide +kernel) ?_
    | refine KW.drawU rfl (by decide +kernel) ?_
    | refine KD.zero ?_
    | refine KD.skip' rfl (by first | with_reducible rfl | decide) rfl rfl ?_
    | refine KO.skip' rfl (by first | with_reducible rfl | decide) rfl rfl ?_
    | refine KO.skip0' rfl (by first | with_reducible rfl | decide) rfl ?_
    | refine KO.skipIn rfl (by first | with_reducible rfl | decide) rfl rfl ?_
    | refine KD.skipIn rfl (by first | with_reducible rfl | decide) rfl rfl ?_
    | ((first | apply KO.val rfl rfl rfl ?kq ?_ | apply KO.valIn rfl rfl rfl ?kq ?_ | apply KD.val rfl rfl rfl ?kq ?_ | apply KD.valIn rfl rfl rfl ?kq ?_); (case kq => ((first | ((first | apply qt_add rfl rfl rfl ?hi ?om | apply qt_sub rfl rfl rfl ?hi ?om | apply qt_mul rfl rfl rfl ?hi ?om | apply qt_remN rfl rfl rfl ?hi ?om | apply qt_quoN rfl rfl rfl ?hi ?om | apply qt_addU rfl rfl rfl ?hi ?om | apply qt_subU rfl rfl rfl ?hi ?om | apply qt_mulU rfl rfl rfl ?hi ?om | apply qt_quoU rfl rfl rfl ?hi ?om | apply qt_convI rfl rfl rfl rfl ?hi ?om | apply qt_convU rfl rfl rfl rfl ?hi ?om | apply qt_indexAddr_arr rfl rfl rfl ?hi rfl rfl ?om | apply qt_indexAddr_slice rfl rfl rfl ?hi rfl rfl ?om | apply qt_sliceL rfl rfl rfl ?hi rfl rfl ?om | apply qt_sliceH rfl rfl rfl ?hi rfl rfl ?om | apply qt_sliceLH rfl rfl rfl rfl ?hi rfl rfl ?om | apply qt_sliceLHM rfl rfl rfl rfl rfl ?hi rfl rfl ?om | apply qt_sliceHM rfl rfl rfl rfl ?hi rfl rfl ?om); (case om => (intro hg; first | omega | (simp only [Bool.or_eq_false_iff, Bool.or_eq_true, Bool.and_eq_true, Bool.and_eq_false_iff, Bool.not_eq_true', Bool.not_eq_false', Bool.not_eq_true, Bool.not_eq_false, decide_eq_true_eq, decide_eq_false_iff_not, Bool.not_not, beq_iff_eq, bne_iff_ne, Bool.beq_eq_decide_eq] at hg; omega)))) | apply qt_ev rfl ?hi | ((first | apply qt_load1 rfl rfl ?hi rfl rfl ?hm ?hc | apply qt_loadN rfl rfl ?hi rfl rfl rfl ?hm ?hc); (case hm => repeat (first | exact List.Mem.head _ | apply List.Mem.tail _ | apply List.mem_append_right _)); (case hc => rfl)) | apply qt_pick_t rfl rfl (by first | with_reducible rfl | decide) rfl ?hi | apply qt_pick_f rfl rfl (by first | with_reducible rfl | decide) rfl ?hi | ((first | apply qt_pick_and rfl rfl rfl ?hi ?pj | apply qt_pick_or rfl rfl rfl ?hi ?pj); (case pj => (intro h h2; first | with_reducible exact h2 | with_reducible rfl | (simp [h2]; done) | (simp_all; done)))) | apply qt_build rfl rfl ?hi rfl | apply qt_eqs rfl rfl rfl ?hi rfl (Or.inl rfl) | apply qt_nes rfl rfl rfl ?hi rfl (Or.inl rfl) | ((first | apply qt_quoT rfl rfl rfl ?hi ?om); (case om => (intro hg; first | omega | (simp only [Bool.or_eq_false_iff, Bool.or_eq_true, Bool.and_eq_true, Bool.and_eq_false_iff, Bool.not_eq_true', Bool.not_eq_false', Bool.not_eq_true, Bool.not_eq_false, decide_eq_true_eq, decide_eq_false_iff_not, Bool.not_not, beq_iff_eq, bne_iff_ne, Bool.beq_eq_decide_eq] at hg; omega)))) | ((first | apply qt_rem rfl rfl rfl ?hi ?om | apply qt_quo rfl rfl rfl ?hi ?om | apply qt_shr rfl rfl rfl ?hi ?om | apply qt_shl rfl rfl rfl ?hi ?om); (case om => (intro hg; first | omega | (simp only [Bool.or_eq_false_iff, Bool.or_eq_true, Bool.and_eq_true, Bool.and_eq_false_iff, Bool.not_eq_true', Bool.not_eq_false', Bool.not_eq_true, Bool.not_eq_false, decide_eq_true_eq, decide_eq_false_iff_not, Bool.not_not, beq_iff_eq, bne_iff_ne, Bool.beq_eq_decide_eq] at hg; omega))))); (case hi => (intro h; (repeat' (first | with_reducible exact alln | with_reducible refine allc ?_ ?_ | with_reducible refine andi ?_ ?_)); all_goals (first | with_reducible rfl | with_reducible exact h | with_reducible exact andl h | with_reducible exact andr h | with_reducible exact andl (andl h) | (simp only [h, Bool.and_self]; done) | (simp [h]; done) | (simp_all; done)))))))
    | (refine KO.box rfl rfl rfl rfl rfl rfl ?_; intro _ _)
    | (refine KO.alloc rfl rfl rfl rfl rfl rfl ?_; intro _ _)
    | (refine KO.buildSlice rfl rfl rfl rfl rfl rfl rfl rfl rfl rfl rfl rfl rfl rfl ?_; intro _ _)
    | ((first | apply KO.store (i := 0) rfl rfl rfl rfl rfl rfl rfl rfl ?hl rfl ?hw ?ho ?hs | apply KO.store (i := 1) rfl rfl rfl rfl rfl rfl rfl rfl ?hl rfl ?hw ?ho ?hs | apply KO.store (i := 2) rfl rfl rfl rfl rfl rfl rfl rfl ?hl rfl ?hw ?ho ?hs | apply KO.store (i := 3) rfl rfl rfl rfl rfl rfl rfl rfl ?hl rfl ?hw ?ho ?hs | apply KO.store (i := 4) rfl rfl rfl rfl rfl rfl rfl rfl ?hl rfl ?hw ?ho ?hs | apply KO.store (i := 5) rfl rfl rfl rfl rfl rfl rfl rfl ?hl rfl ?hw ?ho ?hs | apply KO.store (i := 6) rfl rfl rfl rfl rfl rfl rfl rfl ?hl rfl ?hw ?ho ?hs | apply KO.store (i := 7) rfl rfl rfl rfl rfl rfl rfl rfl ?hl rfl ?hw ?ho ?hs); (case hl => rfl); (case hw => rfl); (case ho => rfl); (case hs => rfl))
    | (refine KW.cond rfl ?_ ?_ <;> (intro hc; try simp only [Bool.or_eq_false_iff, Bool.or_eq_true, Bool.and_eq_true, Bool.and_eq_false_iff, Bool.not_eq_true', Bool.not_eq_false', Bool.not_eq_true, Bool.not_eq_false, decide_eq_true_eq, decide_eq_false_iff_not, Bool.not_not, beq_iff_eq, bne_iff_ne, Bool.beq_eq_decide_eq] at hc))
    | exact absurd trivial ‹¬True›
    | fail)
  refine KO.callE rfl rfl rfl rfl rfl rfl rfl rfl (Line_p x y u v _) ?_
  rintro _ φ (⟨h, rfl, rfl⟩ | ⟨h, h2, rfl, rfl⟩ | ⟨h, h2, z, rfl, hz⟩)
  · have e : apE x y u v = 10 := by unfold apE at h ⊢; split <;> simp_all
    rw [e]
    repeat' (first
      | refine KW.seq ?_
      | refine KW.region ?_
      | refine KO.nil ?_
      | refine At.then_normal ?_
      | refine KW.skip ?_
      | refine KW.ret ?_
      | refine At.then_ret ?_
      | refine KW.block ?_
      | refine KW.exit ?_
      | refine At.block_normal ?_
      | refine At.block_ret ?_
      | refine At.loop_ret ?_
      | refine At.then_exit ?_
      | refine At.block_here rfl ?_
      | refine At.block_there rfl ?_
      | refine At.loop_exit ?_
      | refine At.cut_ret ?_
      | refine At.cutA_ret ?_
      | refine At.cutA_exit ?_
      | refine At.cut_exit ?_
      | (refine At.cut_same ?_; repeat' (first | exact FLe.nil _ | refine FLe.cons rfl rfl ?_))
      | refine KW.cond_t rfl (by first | with_reducible rfl | decide) ?_
      | refine KW.cond_f rfl (by first | with_reducible rfl | decide) ?_
      | refine KW.draw 0 (by decide +kernel) ?_
      | refine KW.drawU rfl (by decide +kernel) ?_
      | refine KD.zero ?_
      | refine KD.skip' rfl (by first | with_reducible rfl | decide) rfl rfl ?_
      | refine KO.skip' rfl (by first | with_reducible rfl | decide) rfl rfl ?_
      | refine KO.skip0' rfl (by first | with_reducible rfl | decide) rfl ?_
      | refine KO.skipIn rfl (by first | with_reducible rfl | decide) rfl rfl ?_
      | refine KD.skipIn rfl (by first | with_reducible rfl | decide) rfl rfl ?_
      | ((first | apply KO.val rfl rfl rfl ?kq ?_ | apply KO.valIn rfl rfl rfl ?kq ?_ | apply KD.val rfl rfl rfl ?kq ?_ | apply KD.valIn rfl rfl rfl ?kq ?_); (case kq => ((first | ((first | apply qt_add rfl rfl rfl ?hi ?om | apply qt_sub rfl rfl rfl ?hi ?om | apply qt_mul rfl rfl rfl ?hi ?om | apply qt_remN rfl rfl rfl ?hi ?om | apply qt_quoN rfl rfl rfl ?hi ?om | apply qt_addU rfl rfl rfl ?hi ?om | apply qt_subU rfl rfl rfl ?hi ?om | apply qt_mulU rfl rfl rfl ?hi ?om | apply qt_quoU rfl rfl rfl ?hi ?om | apply qt_convI rfl rfl rfl rfl ?hi ?om | apply qt_convU rfl rfl rfl rfl ?hi ?om | apply qt_indexAddr_arr rfl rfl rfl ?hi rfl rfl ?om | apply qt_indexAddr_slice rfl rfl rfl ?hi rfl rfl ?om | apply qt_sliceL rfl rfl rfl ?hi rfl rfl ?om | apply qt_sliceH rfl rfl rfl ?hi rfl rfl ?om | apply qt_sliceLH rfl rfl rfl rfl ?hi rfl rfl ?om | apply qt_sliceLHM rfl rfl rfl rfl rfl ?hi rfl rfl ?om | apply qt_sliceHM rfl rfl rfl rfl ?hi rfl rfl ?om); (case om => (intro hg; first | omega | (simp only [Bool.or_eq_false_iff, Bool.or_eq_true, Bool.and_eq_true, Bool.and_eq_false_iff, Bool.not_eq_true', Bool.not_eq_false', Bool.not_eq_true, Bool.not_eq_false, decide_eq_true_eq, decide_eq_false_iff_not, Bool.not_not, beq_iff_eq, bne_iff_ne, Bool.beq_eq_decide_eq] at hg; omega)))) | apply qt_ev rfl ?hi | ((first | apply qt_load1 rfl rfl ?hi rfl rfl ?hm ?hc | apply qt_loadN rfl rfl ?hi rfl rfl rfl ?hm ?hc); (case hm => repeat (first | exact List.Mem.head _ | apply List.Mem.tail _ | apply List.mem_append_right _)); (case hc => rfl)) | refine qt_call rfl rfl ?hi (fun hg => rPlain_p _ _) | refine qt_call rfl rfl ?hi (fun hg => awake_p) | apply qt_pick_t rfl rfl (by first | with_reducible rfl | decide) rfl ?hi | apply qt_pick_f rfl rfl (by first | with_reducible rfl | decide) rfl ?hi | ((first | apply qt_pick_and rfl rfl rfl ?hi ?pj | apply qt_pick_or rfl rfl rfl ?hi ?pj); (case pj => (intro h h2; first | with_reducible exact h2 | with_reducible rfl | (simp [h2]; done) | (simp_all; done)))) | apply qt_build rfl rfl ?hi rfl | apply qt_eqs rfl rfl rfl ?hi rfl (Or.inl rfl) | apply qt_nes rfl rfl rfl ?hi rfl (Or.inl rfl) | ((first | apply qt_quoT rfl rfl rfl ?hi ?om); (case om => (intro hg; first | omega | (simp only [Bool.or_eq_false_iff, Bool.or_eq_true, Bool.and_eq_true, Bool.and_eq_false_iff, Bool.not_eq_true', Bool.not_eq_false', Bool.not_eq_true, Bool.not_eq_false, decide_eq_true_eq, decide_eq_false_iff_not, Bool.not_not, beq_iff_eq, bne_iff_ne, Bool.beq_eq_decide_eq] at hg; omega)))) | ((first | apply qt_rem rfl rfl rfl ?hi ?om | apply qt_quo rfl rfl rfl ?hi ?om | apply qt_shr rfl rfl rfl ?hi ?om | apply qt_shl rfl rfl rfl ?hi ?om); (case om => (intro hg; first | omega | (simp only [Bool.or_eq_false_iff, Bool.or_eq_true, Bool.and_eq_true, Bool.and_eq_false_iff, Bool.not_eq_true', Bool.not_eq_false', Bool.not_eq_true, Bool.not_eq_false, decide_eq_true_eq, decide_eq_false_iff_not, Bool.not_not, beq_iff_eq, bne_iff_ne, Bool.beq_eq_decide_eq] at hg; omega))))); (case hi => (intro h; (repeat' (first | with_reducible exact alln | with_reducible refine allc ?_ ?_ | with_reducible refine andi ?_ ?_)); all_goals (first | with_reducible rfl | with_reducible exact h | with_reducible exact andl h | with_reducible exact andr h | with_reducible exact andl (andl h) | (simp only [h, Bool.and_self]; done) | (simp [h]; done) | (simp_all; done)))))))
      | (refine KO.box rfl rfl rfl rfl rfl rfl ?_; intro _ _)
      | (refine KO.alloc rfl rfl rfl rfl rfl rfl ?_; intro _ _)
      | (refine KO.buildSlice rfl rfl rfl rfl rfl rfl rfl rfl rfl rfl rfl rfl rfl rfl ?_; intro _ _)
      | ((first | apply KO.store (i := 0) rfl rfl rfl rfl rfl rfl rfl rfl ?hl rfl ?hw ?ho ?hs | apply KO.store (i := 1) rfl rfl rfl rfl rfl rfl rfl rfl ?hl rfl ?hw ?ho ?hs | apply KO.store (i := 2) rfl rfl rfl rfl rfl rfl rfl rfl ?hl rfl ?hw ?ho ?hs | apply KO.store (i := 3) rfl rfl rfl rfl rfl rfl rfl rfl ?hl rfl ?hw ?ho ?hs | apply KO.store (i := 4) rfl rfl rfl rfl rfl rfl rfl rfl ?hl rfl ?hw ?ho ?hs | apply KO.store (i := 5) rfl rfl rfl rfl rfl rfl rfl rfl ?hl rfl ?hw ?ho ?hs | apply KO.store (i := 6) rfl rfl rfl rfl rfl rfl rfl rfl ?hl rfl ?hw ?ho ?hs | apply KO.store (i := 7) rfl rfl rfl rfl rfl rfl rfl rfl ?hl rfl ?hw ?ho ?hs); (case hl => rfl); (case hw => rfl); (case ho => rfl); (case hs => rfl))
      | (refine KW.cond rfl ?_ ?_ <;> (intro hc; try simp only [Bool.or_eq_false_iff, Bool.or_eq_true, Bool.and_eq_true, Bool.and_eq_false_iff, Bool.not_eq_true', Bool.not_eq_false', Bool.not_eq_true, Bool.not_eq_false, decide_eq_true_eq, decide_eq_false_iff_not, Bool.not_not, beq_iff_eq, bne_iff_ne, Bool.beq_eq_decide_eq] at hc))
      | exact absurd trivial ‹¬True›
      | fail)
    · ((first | apply At.done_ret | apply At.done_normal); (focus (repeat' (first | exact ResVs.nil' | apply ResVs.cons' | exact ResV.tmp' rfl | (apply ResV.cell1 rfl ?hm rfl rfl ?hc; (case hm => repeat (first | exact List.Mem.head _ | apply List.Mem.tail _ | apply List.mem_append_right _)); (case hc => rfl)) | (apply ResV.cellN rfl ?hm rfl rfl rfl ?hc; (case hm => repeat (first | exact List.Mem.head _ | apply List.Mem.tail _ | apply List.mem_append_right _)); (case hc => rfl))))); dsimp only [resVal])
    · exfalso
      simp [apE, hc.1, hc.2] at e
  · obtain ⟨hs, _⟩ := gFar_bd x y u v h
    repeat' (first
      | refine KW.seq ?_
      | refine KW.region ?_
      | refine KO.nil ?_
      | refine At.then_normal ?_
      | refine KW.skip ?_
      | refine KW.ret ?_
      | refine At.then_ret ?_
      | refine KW.block ?_
      | refine KW.exit ?_
      | refine At.block_normal ?_
      | refine At.block_ret ?_
      | refine At.loop_ret ?_
      | refine At.then_exit ?_
      | refine At.block_here rfl ?_
      | refine At.block_there rfl ?_
      | refine At.loop_exit ?_
      | refine At.cut_ret ?_
      | refine At.cutA_ret ?_
      | refine At.cutA_exit ?_
      | refine At.cut_exit ?_
      | (refine At.cut_same ?_; repeat' (first | exact FLe.nil _ | refine FLe.cons rfl rfl ?_))
      | refine KW.cond_t rfl (by first | with_reducible rfl | decide) ?_
      | refine KW.cond_f rfl (by first | with_reducible rfl | decide) ?_
      | refine KW.draw 0 (by decide +kernel) ?_
      | refine KW.drawU rfl (by decide +kernel) ?_
      | refine KD.zero ?_
      | refine KD.skip' rfl (by first | with_reducible rfl | decide) rfl rfl ?_
      | refine KO.skip' rfl (by first | with_reducible rfl | decide) rfl rfl ?_
      | refine KO.skip0' rfl (by first | with_reducible rfl | decide) rfl ?_
      | refine KO.skipIn rfl (by first | with_reducible rfl | decide) rfl rfl ?_
      | refine KD.skipIn rfl (by first | with_reducible rfl | decide) rfl rfl ?_
      | ((first | apply KO.val rfl rfl rfl ?kq ?_ | apply KO.valIn rfl rfl rfl ?kq ?_ | apply KD.val rfl rfl rfl ?kq ?_ | apply KD.valIn rfl rfl rfl ?kq ?_); (case kq => ((first | ((first | apply qt_add rfl rfl rfl ?hi ?om | apply qt_sub rfl rfl rfl ?hi ?om | apply qt_mul rfl rfl rfl ?hi ?om | apply qt_remN rfl rfl rfl ?hi ?om | apply qt_quoN rfl rfl rfl ?hi ?om | apply qt_addU rfl rfl rfl ?hi ?om | apply qt_subU rfl rfl rfl ?hi ?om | apply qt_mulU rfl rfl rfl ?hi ?om | apply qt_quoU rfl rfl rfl ?hi ?om | apply qt_convI rfl rfl rfl rfl ?hi ?om | apply qt_convU rfl rfl rfl rfl ?hi ?om | apply qt_indexAddr_arr rfl rfl rfl ?hi rfl rfl ?om | apply qt_indexAddr_slice rfl rfl rfl ?hi rfl rfl ?om | apply qt_sliceL rfl rfl rfl ?hi rfl rfl ?om | apply qt_sliceH rfl rfl rfl ?hi rfl rfl ?om | apply qt_sliceLH rfl rfl rfl rfl ?hi rfl rfl ?om | apply qt_sliceLHM rfl rfl rfl rfl rfl ?hi rfl rfl ?om | apply qt_sliceHM rfl rfl rfl rfl ?hi rfl rfl ?om); (case om => (intro hg; first | omega | (simp only [Bool.or_eq_false_iff, Bool.or_eq_true, Bool.and_eq_true, Bool.and_eq_false_iff, Bool.not_eq_true', Bool.not_eq_false', Bool.not_eq_true, Bool.not_eq_false, decide_eq_true_eq, decide_eq_false_iff_not, Bool.not_not, beq_iff_eq, bne_iff_ne, Bool.beq_eq_decide_eq] at hg; omega)))) | apply qt_ev rfl ?hi | ((first | apply qt_load1 rfl rfl ?hi rfl rfl ?hm ?hc | apply qt_loadN rfl rfl ?hi rfl rfl rfl ?hm ?hc); (case hm => repeat (first | exact List.Mem.head _ | apply List.Mem.tail _ | apply List.mem_append_right _)); (case hc => rfl)) | refine qt_call rfl rfl ?hi (fun hg => rPlain_p _ _) | refine qt_call rfl rfl ?hi (fun hg => awake_p) | refine qt_call rfl rfl ?hi (fun hg => rFar_p _ _ _ _ hs) | apply qt_pick_t rfl rfl (by first | with_reducible rfl | decide) rfl ?hi | apply qt_pick_f rfl rfl (by first | with_reducible rfl | decide) rfl ?hi | ((first | apply qt_pick_and rfl rfl rfl ?hi ?pj | apply qt_pick_or rfl rfl rfl ?hi ?pj); (case pj => (intro h h2; first | with_reducible exact h2 | with_reducible rfl | (simp [h2]; done) | (simp_all; done)))) | apply qt_build rfl rfl ?hi rfl | apply qt_eqs rfl rfl rfl ?hi rfl (Or.inl rfl) | apply qt_nes rfl rfl rfl ?hi rfl (Or.inl rfl) | ((first | apply qt_quoT rfl rfl rfl ?hi ?om); (case om => (intro hg; first | omega | (simp only [Bool.or_eq_false_iff, Bool.or_eq_true, Bool.and_eq_true, Bool.and_eq_false_iff, Bool.not_eq_true', Bool.not_eq_false', Bool.not_eq_true, Bool.not_eq_false, decide_eq_true_eq, decide_eq_false_iff_not, Bool.not_not, beq_iff_eq, bne_iff_ne, Bool.beq_eq_decide_eq] at hg; omega)))) | ((first | apply qt_rem rfl rfl rfl ?hi ?om | apply qt_quo rfl rfl rfl ?hi ?om | apply qt_shr rfl rfl rfl ?hi ?om | apply qt_shl rfl rfl rfl ?hi ?om); (case om => (intro hg; first | omega | (simp only [Bool.or_eq_false_iff, Bool.or_eq_true, Bool.and_eq_true, Bool.and_eq_false_iff, Bool.not_eq_true', Bool.not_eq_false', Bool.not_eq_true, Bool.not_eq_false, decide_eq_true_eq, decide_eq_false_iff_not, Bool.not_not, beq_iff_eq, bne_iff_ne, Bool.beq_eq_decide_eq] at hg; omega))))); (case hi => (intro h; (repeat' (first | with_reducible exact alln | with_reducible refine allc ?_ ?_ | with_reducible refine andi ?_ ?_)); all_goals (first | with_reducible rfl | with_reducible exact h | with_reducible exact andl h | with_reducible exact andr h | with_reducible exact andl (andl h) | (simp only [h, Bool.and_self]; done) | (simp [h]; done) | (simp_all; done)))))))
      | (refine KO.box rfl rfl rfl rfl rfl rfl ?_; intro _ _)
      | (refine KO.alloc rfl rfl rfl rfl rfl rfl ?_; intro _ _)
      | (refine KO.buildSlice rfl rfl rfl rfl rfl rfl rfl rfl rfl rfl rfl rfl rfl rfl ?_; intro _ _)
      | ((first | apply KO.store (i := 0) rfl rfl rfl rfl rfl rfl rfl rfl ?hl rfl ?hw ?ho ?hs | apply KO.store (i := 1) rfl rfl rfl rfl rfl rfl rfl rfl ?hl rfl ?hw ?ho ?hs | apply KO.store (i := 2) rfl rfl rfl rfl rfl rfl rfl rfl ?hl rfl ?hw ?ho ?hs | apply KO.store (i := 3) rfl rfl rfl rfl rfl rfl rfl rfl ?hl rfl ?hw ?ho ?hs | apply KO.store (i := 4) rfl rfl rfl rfl rfl rfl rfl rfl ?hl rfl ?hw ?ho ?hs | apply KO.store (i := 5) rfl rfl rfl rfl rfl rfl rfl rfl ?hl rfl ?hw ?ho ?hs | apply KO.store (i := 6) rfl rfl rfl rfl rfl rfl rfl rfl ?hl rfl ?hw ?ho ?hs | apply KO.store (i := 7) rfl rfl rfl rfl rfl rfl rfl rfl ?hl rfl ?hw ?ho ?hs); (case hl => rfl); (case hw => rfl); (case ho => rfl); (case hs => rfl))
      | (refine KW.cond rfl ?_ ?_ <;> (intro hc; try simp only [Bool.or_eq_false_iff, Bool.or_eq_true, Bool.and_eq_true, Bool.and_eq_false_iff, Bool.not_eq_true', Bool.not_eq_false', Bool.not_eq_true, Bool.not_eq_false, decide_eq_true_eq, decide_eq_false_iff_not, Bool.not_not, beq_iff_eq, bne_iff_ne, Bool.beq_eq_decide_eq] at hc))
      | exact absurd trivial ‹¬True›
      | fail)
    · exfalso
      simp [hs.1, hs.2] at hc
    · ((first | apply At.done_ret | apply At.done_normal); (focus (repeat' (first | exact ResVs.nil' | apply ResVs.cons' | exact ResV.tmp' rfl | (apply ResV.cell1 rfl ?hm rfl rfl ?hc; (case hm => repeat (first | exact List.Mem.head _ | apply List.Mem.tail _ | apply List.mem_append_right _)); (case hc => rfl)) | (apply ResV.cellN rfl ?hm rfl rfl rfl ?hc; (case hm => repeat (first | exact List.Mem.head _ | apply List.Mem.tail _ | apply List.mem_append_right _)); (case hc => rfl))))); dsimp only [resVal])
    · exfalso; omega
  · obtain ⟨hs, _⟩ := gFar_bd x y u v h
    have hg0 : 0 ≤ gFar x y u v := by have := ap_bd x y u v; simp only [gFar]; omega
    obtain ⟨n, hn⟩ := Int.eq_ofNat_of_zero_le hg0
    rw [hn, Int.toNat_natCast] at hz
    obtain ⟨pz, cz, rfl⟩ := hz.len
    repeat' (first
      | refine KW.seq ?_
      | refine KW.region ?_
      | refine KO.nil ?_
      | refine At.then_normal ?_
      | refine KW.skip ?_
      | refine KW.ret ?_
      | refine At.then_ret ?_
      | refine KW.block ?_
      | refine KW.exit ?_
      | refine At.block_normal ?_
      | refine At.block_ret ?_
      | refine At.loop_ret ?_
      | refine At.then_exit ?_
      | refine At.block_here rfl ?_
      | refine At.block_there rfl ?_
      | refine At.loop_exit ?_
      | refine At.cut_ret ?_
      | refine At.cutA_ret ?_
      | refine At.cutA_exit ?_
      | refine At.cut_exit ?_
      | (refine At.cut_same ?_; repeat' (first | exact FLe.nil _ | refine FLe.cons rfl rfl ?_))
      | refine KW.cond_t rfl (by first | with_reducible rfl | decide) ?_
      | refine KW.cond_f rfl (by first | with_reducible rfl | decide) ?_
      | refine KW.draw 0 (by decide +kernel) ?_
      | refine KW.drawU rfl (by decide +kernel) ?_
      | refine KD.zero ?_
      | refine KD.skip' rfl (by first | with_reducible rfl | decide) rfl rfl ?_
      | refine KO.skip' rfl (by first | with_reducible rfl | decide) rfl rfl ?_
      | refine KO.skip0' rfl (by first | with_reducible rfl | decide) rfl ?_
      | refine KO.skipIn rfl (by first | with_reducible rfl | decide) rfl rfl ?_
      | refine KD.skipIn rfl (by first | with_reducible rfl | decide) rfl rfl ?_
      | ((first | apply KO.val rfl rfl rfl ?kq ?_ | apply KO.valIn rfl rfl rfl ?kq ?_ | apply KD.val rfl rfl rfl ?kq ?_ | apply KD.valIn rfl rfl rfl ?kq ?_); (case kq => ((first | ((first | apply qt_add rfl rfl rfl ?hi ?om | apply qt_sub rfl rfl rfl ?hi ?om | apply qt_mul rfl rfl rfl ?hi ?om | apply qt_remN rfl rfl rfl ?hi ?om | apply qt_quoN rfl rfl rfl ?hi ?om | apply qt_addU rfl rfl rfl ?hi ?om | apply qt_subU rfl rfl rfl ?hi ?om | apply qt_mulU rfl rfl rfl ?hi ?om | apply qt_quoU rfl rfl rfl ?hi ?om | apply qt_convI rfl rfl rfl rfl ?hi ?om | apply qt_convU rfl rfl rfl rfl ?hi ?om | apply qt_indexAddr_arr rfl rfl rfl ?hi rfl rfl ?om | apply qt_indexAddr_slice rfl rfl rfl ?hi rfl rfl ?om | apply qt_sliceL rfl rfl rfl ?hi rfl rfl ?om | apply qt_sliceH rfl rfl rfl ?hi rfl rfl ?om | apply qt_sliceLH rfl rfl rfl rfl ?hi rfl rfl ?om | apply qt_sliceLHM rfl rfl rfl rfl rfl ?hi rfl rfl ?om | apply qt_sliceHM rfl rfl rfl rfl ?hi rfl rfl ?om); (case om => (intro hg; first | omega | (simp only [Bool.or_eq_false_iff, Bool.or_eq_true, Bool.and_eq_true, Bool.and_eq_false_iff, Bool.not_eq_true', Bool.not_eq_false', Bool.not_eq_true, Bool.not_eq_false, decide_eq_true_eq, decide_eq_false_iff_not, Bool.not_not, beq_iff_eq, bne_iff_ne, Bool.beq_eq_decide_eq] at hg; omega)))) | apply qt_ev rfl ?hi | ((first | apply qt_load1 rfl rfl ?hi rfl rfl ?hm ?hc | apply qt_loadN rfl rfl ?hi rfl rfl rfl ?hm ?hc); (case hm => repeat (first | exact List.Mem.head _ | apply List.Mem.tail _ | apply List.mem_append_right _)); (case hc => rfl)) | refine qt_call rfl rfl ?hi (fun hg => rPlain_p _ _) | refine qt_call rfl rfl ?hi (fun hg => awake_p) | refine qt_call rfl rfl ?hi (fun hg => rFar_p _ _ _ _ hs) | apply qt_pick_t rfl rfl (by first | with_reducible rfl | decide) rfl ?hi | apply qt_pick_f rfl rfl (by first | with_reducible rfl | decide) rfl ?hi | ((first | apply qt_pick_and rfl rfl rfl ?hi ?pj | apply qt_pick_or rfl rfl rfl ?hi ?pj); (case pj => (intro h h2; first | with_reducible exact h2 | with_reducible rfl | (simp [h2]; done) | (simp_all; done)))) | apply qt_build rfl rfl ?hi rfl | apply qt_eqs rfl rfl rfl ?hi rfl (Or.inl rfl) | apply qt_nes rfl rfl rfl ?hi rfl (Or.inl rfl) | ((first | apply qt_quoT rfl rfl rfl ?hi ?om); (case om => (intro hg; first | omega | (simp only [Bool.or_eq_false_iff, Bool.or_eq_true, Bool.and_eq_true, Bool.and_eq_false_iff, Bool.not_eq_true', Bool.not_eq_false', Bool.not_eq_true, Bool.not_eq_false, decide_eq_true_eq, decide_eq_false_iff_not, Bool.not_not, beq_iff_eq, bne_iff_ne, Bool.beq_eq_decide_eq] at hg; omega)))) | ((first | apply qt_rem rfl rfl rfl ?hi ?om | apply qt_quo rfl rfl rfl ?hi ?om | apply qt_shr rfl rfl rfl ?hi ?om | apply qt_shl rfl rfl rfl ?hi ?om); (case om => (intro hg; first | omega | (simp only [Bool.or_eq_false_iff, Bool.or_eq_true, Bool.and_eq_true, Bool.and_eq_false_iff, Bool.not_eq_true', Bool.not_eq_false', Bool.not_eq_true, Bool.not_eq_false, decide_eq_true_eq, decide_eq_false_iff_not, Bool.not_not, beq_iff_eq, bne_iff_ne, Bool.beq_eq_decide_eq] at hg; omega))))); (case hi => (intro h; (repeat' (first | with_reducible exact alln | with_reducible refine allc ?_ ?_ | with_reducible refine andi ?_ ?_)); all_goals (first | with_reducible rfl | with_reducible exact h | with_reducible exact andl h | with_reducible exact andr h | with_reducible exact andl (andl h) | (simp only [h, Bool.and_self]; done) | (simp [h]; done) | (simp_all; done)))))))
      | (refine KO.box rfl rfl rfl rfl rfl rfl ?_; intro _ _)
      | (refine KO.alloc rfl rfl rfl rfl rfl rfl ?_; intro _ _)
      | (refine KO.buildSlice rfl rfl rfl rfl rfl rfl rfl rfl rfl rfl rfl rfl rfl rfl ?_; intro _ _)
      | ((first | apply KO.store (i := 0) rfl rfl rfl rfl rfl rfl rfl rfl ?hl rfl ?hw ?ho ?hs | apply KO.store (i := 1) rfl rfl rfl rfl rfl rfl rfl rfl ?hl rfl ?hw ?ho ?hs | apply KO.store (i := 2) rfl rfl rfl rfl rfl rfl rfl rfl ?hl rfl ?hw ?ho ?hs | apply KO.store (i := 3) rfl rfl rfl rfl rfl rfl rfl rfl ?hl rfl ?hw ?ho ?hs | apply KO.store (i := 4) rfl rfl rfl rfl rfl rfl rfl rfl ?hl rfl ?hw ?ho ?hs | apply KO.store (i := 5) rfl rfl rfl rfl rfl rfl rfl rfl ?hl rfl ?hw ?ho ?hs | apply KO.store (i := 6) rfl rfl rfl rfl rfl rfl rfl rfl ?hl rfl ?hw ?ho ?hs | apply KO.store (i := 7) rfl rfl rfl rfl rfl rfl rfl rfl ?hl rfl ?hw ?ho ?hs); (case hl => rfl); (case hw => rfl); (case ho => rfl); (case hs => rfl))
      | (refine KW.cond rfl ?_ ?_ <;> (intro hc; try simp only [Bool.or_eq_false_iff, Bool.or_eq_true, Bool.and_eq_true, Bool.and_eq_false_iff, Bool.not_eq_true', Bool.not_eq_false', Bool.not_eq_true, Bool.not_eq_false, decide_eq_true_eq, decide_eq_false_iff_not, Bool.not_not, beq_iff_eq, bne_iff_ne, Bool.beq_eq_decide_eq] at hc))
      | exact absurd trivial ‹¬True›
      | fail)
    · exfalso
      simp [hs.1, hs.2] at hc
    · exfalso; omega
    · refine KO.callE rfl rfl rfl rfl rfl rfl rfl rfl (rLine_p x y u v n hs hn _) ?_
      rintro q ψ hq
      obtain ⟨pq, cq, rfl⟩ := hq.len
      repeat' (first
        | refine KW.seq ?_
        | refine KW.region ?_
        | refine KO.nil ?_
        | refine At.then_normal ?_
        | refine KW.skip ?_
        | refine KW.ret ?_
        | refine At.then_ret ?_
        | refine KW.block ?_
        | refine KW.exit ?_
        | refine At.block_normal ?_
        | refine At.block_ret ?_
        | refine At.loop_ret ?_
        | refine At.then_exit ?_
        | refine At.block_here rfl ?_
        | refine At.block_there rfl ?_
        | refine At.loop_exit ?_
        | refine At.cut_ret ?_
        | refine At.cutA_ret ?_
        | refine At.cutA_exit ?_
        | refine At.cut_exit ?_
        | (refine At.cut_same ?_; repeat' (first | exact FLe.nil _ | refine FLe.cons rfl rfl ?_))
        | refine KW.cond_t rfl (by first | with_reducible rfl | decide) ?_
        | refine KW.cond_f rfl (by first | with_reducible rfl | decide) ?_
        | refine KW.draw 0 (by decide +kernel) ?_
        | refine KW.drawU rfl (by decide +kernel) ?_
        | refine KD.zero ?_
        | refine KD.skip' rfl (by first | with_reducible rfl | decide) rfl rfl ?_
        | refine KO.skip' rfl (by first | with_reducible rfl | decide) rfl rfl ?_
        | refine KO.skip0' rfl (by first | with_reducible rfl | decide) rfl ?_
        | refine KO.skipIn rfl (by first | with_reducible rfl | decide) rfl rfl ?_
        | refine KD.skipIn rfl (by first | with_reducible rfl | decide) rfl rfl ?_
        | ((first | apply KO.val rfl rfl rfl ?kq ?_ | apply KO.valIn rfl rfl rfl ?kq ?_ | apply KD.val rfl rfl rfl ?kq ?_ | apply KD.valIn rfl rfl rfl ?kq ?_); (case kq => ((first | ((first | apply qt_add rfl rfl rfl ?hi ?om | apply qt_sub rfl rfl rfl ?hi ?om | apply qt_mul rfl rfl rfl ?hi ?om | apply qt_remN rfl rfl rfl ?hi ?om | apply qt_quoN rfl rfl rfl ?hi ?om | apply qt_addU rfl rfl rfl ?hi ?om | apply qt_subU rfl rfl rfl ?hi ?om | apply qt_mulU rfl rfl rfl ?hi ?om | apply qt_quoU rfl rfl rfl ?hi ?om | apply qt_convI rfl rfl rfl rfl ?hi ?om | apply qt_convU rfl rfl rfl rfl ?hi ?om | apply qt_indexAddr_arr rfl rfl rfl ?hi rfl rfl ?om | apply qt_indexAddr_slice rfl rfl rfl ?hi rfl rfl ?om | apply qt_sliceL rfl rfl rfl ?hi rfl rfl ?om | apply qt_sliceH rfl rfl rfl ?hi rfl rfl ?om | apply qt_sliceLH rfl rfl rfl rfl ?hi rfl rfl ?om | apply qt_sliceLHM rfl rfl rfl rfl rfl ?hi rfl rfl ?om | apply qt_sliceHM rfl rfl rfl rfl ?hi rfl rfl ?om); (case om => (intro hg; first | omega | (simp only [Bool.or_eq_false_iff, Bool.or_eq_true, Bool.and_eq_true, Bool.and_eq_false_iff, Bool.not_eq_true', Bool.not_eq_false', Bool.not_eq_true, Bool.not_eq_false, decide_eq_true_eq, decide_eq_false_iff_not, Bool.not_not, beq_iff_eq, bne_iff_ne, Bool.beq_eq_decide_eq] at hg; omega)))) | apply qt_ev rfl ?hi | ((first | apply qt_load1 rfl rfl ?hi rfl rfl ?hm ?hc | apply qt_loadN rfl rfl ?hi rfl rfl rfl ?hm ?hc); (case hm => repeat (first | exact List.Mem.head _ | apply List.Mem.tail _ | apply List.mem_append_right _)); (case hc => rfl)) | refine qt_callQ rfl rfl ?hi (fun hg => same_t _ _ (linL x y u v n) _ _ _ _ _ _ (linL_len _ _ _ _ _) (linL_len _ _ _ _ _) (SL.ofVec hz (by intro r hr; simp [hr])) (SL.ofVec hq (by intro r hr; simp [hr])) (by omega)) | refine qt_call rfl rfl ?hi (fun hg => awake_p) | apply qt_pick_t rfl rfl (by first | with_reducible rfl | decide) rfl ?hi | apply qt_pick_f rfl rfl (by first | with_reducible rfl | decide) rfl ?hi | ((first | apply qt_pick_and rfl rfl rfl ?hi ?pj | apply qt_pick_or rfl rfl rfl ?hi ?pj); (case pj => (intro h h2; first | with_reducible exact h2 | with_reducible rfl | (simp [h2]; done) | (simp_all; done)))) | apply qt_build rfl rfl ?hi rfl | apply qt_eqs rfl rfl rfl ?hi rfl (Or.inl rfl) | apply qt_nes rfl rfl rfl ?hi rfl (Or.inl rfl) | ((first | apply qt_quoT rfl rfl rfl ?hi ?om); (case om => (intro hg; first | omega | (simp only [Bool.or_eq_false_iff, Bool.or_eq_true, Bool.and_eq_true, Bool.and_eq_false_iff, Bool.not_eq_true', Bool.not_eq_false', Bool.not_eq_true, Bool.not_eq_false, decide_eq_true_eq, decide_eq_false_iff_not, Bool.not_not, beq_iff_eq, bne_iff_ne, Bool.beq_eq_decide_eq] at hg; omega)))) | ((first | apply qt_rem rfl rfl rfl ?hi ?om | apply qt_quo rfl rfl rfl ?hi ?om | apply qt_shr rfl rfl rfl ?hi ?om | apply qt_shl rfl rfl rfl ?hi ?om); (case om => (intro hg; first | omega | (simp only [Bool.or_eq_false_iff, Bool.or_eq_true, Bool.and_eq_true, Bool.and_eq_false_iff, Bool.not_eq_true', Bool.not_eq_false', Bool.not_eq_true, Bool.not_eq_false, decide_eq_true_eq, decide_eq_false_iff_not, Bool.not_not, beq_iff_eq, bne_iff_ne, Bool.beq_eq_decide_eq] at hg; omega))))); (case hi => (intro h; (repeat' (first | with_reducible exact alln | with_reducible refine allc ?_ ?_ | with_reducible refine andi ?_ ?_)); all_goals (first | with_reducible rfl | with_reducible exact h | with_reducible exact andl h | with_reducible exact andr h | with_reducible exact andl (andl h) | (simp only [h, Bool.and_self]; done) | (simp [h]; done) | (simp_all; done)))))))
        | (refine KO.box rfl rfl rfl rfl rfl rfl ?_; intro _ _)
        | (refine KO.alloc rfl rfl rfl rfl rfl rfl ?_; intro _ _)
        | (refine KO.buildSlice rfl rfl rfl rfl rfl rfl rfl rfl rfl rfl rfl rfl rfl rfl ?_; intro _ _)
        | ((first | apply KO.store (i := 0) rfl rfl rfl rfl rfl rfl rfl rfl ?hl rfl ?hw ?ho ?hs | apply KO.store (i := 1) rfl rfl rfl rfl rfl rfl rfl rfl ?hl rfl ?hw ?ho ?hs | apply KO.store (i := 2) rfl rfl rfl rfl rfl rfl rfl rfl ?hl rfl ?hw ?ho ?hs | apply KO.store (i := 3) rfl rfl rfl rfl rfl rfl rfl rfl ?hl rfl ?hw ?ho ?hs | apply KO.store (i := 4) rfl rfl rfl rfl rfl rfl rfl rfl ?hl rfl ?hw ?ho ?hs | apply KO.store (i := 5) rfl rfl rfl rfl rfl rfl rfl rfl ?hl rfl ?hw ?ho ?hs | apply KO.store (i := 6) rfl rfl rfl rfl rfl rfl rfl rfl ?hl rfl ?hw ?ho ?hs | apply KO.store (i := 7) rfl rfl rfl rfl rfl rfl rfl rfl ?hl rfl ?hw ?ho ?hs); (case hl => rfl); (case hw => rfl); (case ho => rfl); (case hs => rfl))
        | (refine KW.cond rfl ?_ ?_ <;> (intro hc; try simp only [Bool.or_eq_false_iff, Bool.or_eq_true, Bool.and_eq_true, Bool.and_eq_false_iff, Bool.not_eq_true', Bool.not_eq_false', Bool.not_eq_true, Bool.not_eq_false, decide_eq_true_eq, decide_eq_false_iff_not, Bool.not_not, beq_iff_eq, bne_iff_ne, Bool.beq_eq_decide_eq] at hc))
        | exact absurd trivial ‹¬True›
        | fail)
      ((first | apply At.done_ret | apply At.done_normal); (focus (repeat' (first | exact ResVs.nil' | apply ResVs.cons' | exact ResV.tmp' rfl | (apply ResV.cell1 rfl ?hm rfl rfl ?hc; (case hm => repeat (first | exact List.Mem.head _ | apply List.Mem.tail _ | apply List.mem_append_right _)); (case hc => rfl)) | (apply ResV.cellN rfl ?hm rfl rfl rfl ?hc; (case hm => repeat (first | exact List.Mem.head _ | apply List.Mem.tail _ | apply List.mem_append_right _)); (case hc => rfl))))); dsimp only [resVal])
theorem SightLine_c (β : Nat → Option Obj) (vs : List Value) (hrd : RdVs Try.prog β [23, 23] vs) : Go.K.PureB Try.prog 3 vs.toArray β (.bool true) := by
  obtain ⟨va0, vr0, rfl, ha0, hrd⟩ := hrd.cons
  obtain ⟨va1, vr1, rfl, ha1, hrd⟩ := hrd.cons
  obtain rfl := hrd.nil
  obtain ⟨vc0, rfl, hq0⟩ := rdV_agg (k := 8) (ts := [3, 3]) ha0 (by kernel_rfl) (by kernel_rfl)
  obtain ⟨vl0_0, vm0_0, rfl, hl0_0, hq0⟩ := hq0.cons
  obtain ⟨vl0_1, vm0_1, rfl, hl0_1, hq0⟩ := hq0.cons
  obtain rfl := hq0.nil
  obtain ⟨x, rfl, hb_x⟩ := rd_i64 Try.underlying3 hl0_0
  obtain ⟨y, rfl, hb_y⟩ := rd_i64 Try.underlying3 hl0_1
  obtain ⟨vc1, rfl, hq1⟩ := rdV_agg (k := 8) (ts := [3, 3]) ha1 (by kernel_rfl) (by kernel_rfl)
  obtain ⟨vl1_0, vm1_0, rfl, hl1_0, hq1⟩ := hq1.cons
  obtain ⟨vl1_1, vm1_1, rfl, hl1_1, hq1⟩ := hq1.cons
  obtain rfl := hq1.nil
  obtain ⟨u, rfl, hb_u⟩ := rd_i64 Try.underlying3 hl1_0
  obtain ⟨v, rfl, hb_v⟩ := rd_i64 Try.underlying3 hl1_1
  exact SightLine_p β x y u v
set_option maxRecDepth 100000 in
theorem SightLine_lifted (os : Os) (started : os.Started) (H : Type) (enc : TypeId × Value → H) :
    ReturnsInHanded {} Try.checked os 3 .any (Rows.sightLineSpec.pre6 enc Try.prog Try.f3 Rows.sightLineRow.domain false) (Rows.sightLineSpec.post enc Try.prog Try.f3 false true false false) :=
  law_lift (C := Try.checked) Try.own started (by kernel_rfl) Try.func3
    (ChangeSpec.witness6 (enc := enc) (C := Try.checked) false ⟨#[], #[.agg #[.int .i64 0, .int .i64 0], .agg #[.int .i64 0, .int .i64 0]], []⟩ 8 (by kernel_rfl) (by kernel_rfl) (by kernel_rfl) (by kernel_rfl))
    Try.laidOut rfl (by kernel_rfl) (by kernel_rfl) rfl Try.underlying4
    (fun ds h => by
      have h' : ds.length = 2 := h
      match ds, h' with
      | [_, _], _ => rfl)
    (fun β vs h => SightLine_c β vs h)

theorem SightLine_holds : Rows.SightLineSaid :=
  OpenClaim.holds_of_wide 3 Try.f3 rfl rfl rfl rfl rfl rfl rfl ⟨rfl, rfl, rfl, rfl, rfl⟩ rfl rfl rfl rfl rfl (by kernel_rfl) Try.func3 (by kernel_rfl)
    (of_decide_eq_true (by kernel_rfl)) (by unfold Func.isWrapper; first | (rw [if_pos (by decide +kernel)]; kernel_rfl) | (rw [if_neg (by decide +kernel)]; exact ⟨rfl, rfl⟩))
    (fun os started H enc _ => SightLine_lifted os started H enc)
end Go.Proofs.Ytkoimmfgbepgcaa
