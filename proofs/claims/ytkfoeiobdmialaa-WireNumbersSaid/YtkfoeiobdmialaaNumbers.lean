/- WireNumbers: which bytes numbers are written as, and which numbers are read, or how they are wrong. -/
import Derived.Test.YtkfoeiobdmialaaW6
import Derived.Test.YtkfoeiobdmialaaK15
namespace Go.Proofs.Ytkfoeiobdmialaa
open Go.K Go.ChangeShapes Go.WideShapes Go.ChangeAt Go.RowKit

structure SN where
  i : Nat
  P : List Nat
  u : Value
  φw : Heap
  o : Value
  φo : Heap
  R : List Nat
  pr : Option Addr
  cr : Nat
  pl : Option Addr
  cl' : Nat

set_option maxHeartbeats 8000000 in
theorem WireNumbers_p (β : Nat → Option Obj) (p q : Option Addr) (m c n d : Nat) (ls : List (Nat × Int)) (ys : List Nat) (hm : ls.length = m) (hp : SL β [] 2 m (flP ls) p) (hls : ∀ c ∈ ls, c.1 < 18446744073709551616 ∧ -9223372036854775808 ≤ c.2 ∧ c.2 ≤ 9223372036854775807) (hy : BIn β q n d ys) :
    Go.K.PureB Try.prog 3 #[.slice p m c, .slice q n d] β (.bool true) := by
  refine Tr.pureB (Tr.of_body Try.tt (args := [.slice p m c, .slice q n d]) (fr := [(0, true, .slice p m c), (1, true, .slice q n d)]) Try.func3 rfl (by decide) rfl Try.ntmps3 rfl rfl ?_)
  intro E hE
  subst hE
  repeat' (first
    | refine KW.seq ?_
    | refine KW.region ?_
    | refine KO.nil ?_
    | refine At.then_normal ?_
    | refine KW.skip ?_
    | refine KW.ret ?_
    | refine At.then_ret ?_
    | refine KW.block ?_
    | refine KW.exit ?_
    | refine At.block_normal ?_
    | refine At.block_ret ?_
    | refine At.loop_ret ?_
    | refine At.then_exit ?_
    | refine At.block_here rfl ?_
    | refine At.block_there rfl ?_
    | refine At.loop_exit ?_
    | refine At.cut_ret ?_
    | refine At.cutA_ret ?_
    | refine At.cutA_exit ?_
    | refine At.cut_exit ?_
    | (refine At.cut_same ?_; repeat' (first | exact FLe.nil _ | refine FLe.cons rfl rfl ?_))
    | refine KW.cond_t rfl (by first | with_reducible rfl | decide) ?_
    | refine KW.cond_f rfl (by first | with_reducible rfl | decide) ?_
    | refine KW.draw 0 (by decide +kernel) ?_
    | refine KW.drawU rfl (by decide +kernel) ?_
    | refine KD.zero ?_
    | refine KD.skip' rfl (by first | with_reducible rfl | decide) rfl rfl ?_
    | refine KO.skip' rfl (by first | with_reducible rfl | decide) rfl rfl ?_
    | refine KO.skip0' rfl (by first | with_reducible rfl | decide) rfl ?_
    | ((first | apply KO.val rfl rfl rfl ?kq ?_ | apply KO.valIn rfl rfl rfl ?kq ?_ | apply KD.val rfl rfl rfl ?kq ?_ | apply KD.valIn rfl rfl rfl ?kq ?_); (case kq => ((first | ((first | apply qt_add rfl rfl rfl ?hi ?om | apply qt_sub rfl rfl rfl ?hi ?om | apply qt_mul rfl rfl rfl ?hi ?om | apply qt_remN rfl rfl rfl ?hi ?om | apply qt_quoN rfl rfl rfl ?hi ?om | apply qt_addU rfl rfl rfl ?hi ?om | apply qt_subU rfl rfl rfl ?hi ?om | apply qt_mulU rfl rfl rfl ?hi ?om | apply qt_quoU rfl rfl rfl ?hi ?om | apply qt_convI rfl rfl rfl rfl ?hi ?om | apply qt_convU rfl rfl rfl rfl ?hi ?om | apply qt_indexAddr_arr rfl rfl rfl ?hi rfl rfl ?om | apply qt_indexAddr_slice rfl rfl rfl ?hi rfl rfl ?om | apply qt_sliceL rfl rfl rfl ?hi rfl rfl ?om | apply qt_sliceH rfl rfl rfl ?hi rfl rfl ?om | apply qt_sliceLH rfl rfl rfl rfl ?hi rfl rfl ?om | apply qt_sliceLHM rfl rfl rfl rfl rfl ?hi rfl rfl ?om | apply qt_sliceHM rfl rfl rfl rfl ?hi rfl rfl ?om); (case om => (intro hg; first | omega | (simp only [Bool.or_eq_false_iff, Bool.or_eq_true, Bool.and_eq_true, Bool.and_eq_false_iff, Bool.not_eq_true', Bool.not_eq_false', Bool.not_eq_true, Bool.not_eq_false, decide_eq_true_eq, decide_eq_false_iff_not, Bool.not_not, beq_iff_eq, bne_iff_ne, Bool.beq_eq_decide_eq] at hg; omega)))) | apply qt_ev rfl ?hi | ((first | apply qt_load1 rfl rfl ?hi rfl rfl ?hm ?hc | apply qt_loadN rfl rfl ?hi rfl rfl rfl ?hm ?hc); (case hm => repeat (first | exact List.Mem.head _ | apply List.Mem.tail _ | apply List.mem_append_right _)); (case hc => rfl)) | refine qt_call rfl rfl ?hi (fun hg => awake_p) | apply qt_pick_t rfl rfl (by first | with_reducible rfl | decide) rfl ?hi | apply qt_pick_f rfl rfl (by first | with_reducible rfl | decide) rfl ?hi | ((first | apply qt_pick_and rfl rfl rfl ?hi ?pj | apply qt_pick_or rfl rfl rfl ?hi ?pj); (case pj => (intro h h2; first | with_reducible exact h2 | with_reducible rfl | (simp [h2]; done) | (simp_all; done)))) | apply qt_build rfl rfl ?hi rfl | apply qt_eqs rfl rfl rfl ?hi rfl (Or.inl rfl) | apply qt_nes rfl rfl rfl ?hi rfl (Or.inl rfl) | ((first | apply qt_rem rfl rfl rfl ?hi ?om | apply qt_quo rfl rfl rfl ?hi ?om | apply qt_shr rfl rfl rfl ?hi ?om | apply qt_shl rfl rfl rfl ?hi ?om); (case om => (intro hg; first | omega | (simp only [Bool.or_eq_false_iff, Bool.or_eq_true, Bool.and_eq_true, Bool.and_eq_false_iff, Bool.not_eq_true', Bool.not_eq_false', Bool.not_eq_true, Bool.not_eq_false, decide_eq_true_eq, decide_eq_false_iff_not, Bool.not_not, beq_iff_eq, bne_iff_ne, Bool.beq_eq_decide_eq] at hg; omega))))); (case hi => (intro h; (repeat' (first | with_reducible exact alln | with_reducible refine allc ?_ ?_ | with_reducible refine andi ?_ ?_)); all_goals (first | with_reducible rfl | with_reducible exact h | with_reducible exact andl h | with_reducible exact andr h | with_reducible exact andl (andl h) | (simp only [h, Bool.and_self]; done) | (simp [h]; done) | (simp_all; done)))))))
    | (refine KO.box rfl rfl rfl rfl rfl rfl ?_; intro _ _)
    | (refine KO.alloc rfl rfl rfl rfl rfl rfl ?_; intro _ _)
    | (refine KO.buildSlice rfl rfl rfl rfl rfl rfl rfl rfl rfl rfl rfl rfl rfl rfl ?_; intro _ _)
    | ((first | apply KO.store (i := 0) rfl rfl rfl rfl rfl rfl rfl rfl ?hl rfl ?hw ?ho ?hs | apply KO.store (i := 1) rfl rfl rfl rfl rfl rfl rfl rfl ?hl rfl ?hw ?ho ?hs | apply KO.store (i := 2) rfl rfl rfl rfl rfl rfl rfl rfl ?hl rfl ?hw ?ho ?hs | apply KO.store (i := 3) rfl rfl rfl rfl rfl rfl rfl rfl ?hl rfl ?hw ?ho ?hs | apply KO.store (i := 4) rfl rfl rfl rfl rfl rfl rfl rfl ?hl rfl ?hw ?ho ?hs | apply KO.store (i := 5) rfl rfl rfl rfl rfl rfl rfl rfl ?hl rfl ?hw ?ho ?hs | apply KO.store (i := 6) rfl rfl rfl rfl rfl rfl rfl rfl ?hl rfl ?hw ?ho ?hs | apply KO.store (i := 7) rfl rfl rfl rfl rfl rfl rfl rfl ?hl rfl ?hw ?ho ?hs); (case hl => rfl); (case hw => rfl); (case ho => rfl); (case hs => rfl))
    | (refine KW.cond rfl ?_ ?_ <;> (intro hc; try simp only [Bool.or_eq_false_iff, Bool.or_eq_true, Bool.and_eq_true, Bool.and_eq_false_iff, Bool.not_eq_true', Bool.not_eq_false', Bool.not_eq_true, Bool.not_eq_false, decide_eq_true_eq, decide_eq_false_iff_not, Bool.not_not, beq_iff_eq, bne_iff_ne, Bool.beq_eq_decide_eq] at hc))
    | exact absurd trivial ‹¬True›
    | fail)
  · ((first | apply At.done_ret | apply At.done_normal); (focus (repeat' (first | exact ResVs.nil' | apply ResVs.cons' | exact ResV.tmp' rfl | (apply ResV.cell1 rfl ?hm rfl rfl ?hc; (case hm => repeat (first | exact List.Mem.head _ | apply List.Mem.tail _ | apply List.mem_append_right _)); (case hc => rfl)) | (apply ResV.cellN rfl ?hm rfl rfl rfl ?hc; (case hm => repeat (first | exact List.Mem.head _ | apply List.Mem.tail _ | apply List.mem_append_right _)); (case hc => rfl))))); dsimp only [resVal])
    all_goals rfl
  · have hn2 : n ≤ 300 := by omega
    refine KO.callA rfl rfl rfl rfl rfl rfl rfl (Read_p _ _ n d (by8 ys) q (hy.sl.mono (by simp)) hy.none (by8_one _) (by omega)) ?_
    rintro _ _ ⟨br, b0, rfl, hbr, rfl⟩
    repeat' (first
      | refine KW.seq ?_
      | refine KW.region ?_
      | refine KO.nil ?_
      | refine At.then_normal ?_
      | refine KW.skip ?_
      | refine KW.ret ?_
      | refine At.then_ret ?_
      | refine KW.block ?_
      | refine KW.exit ?_
      | refine At.block_normal ?_
      | refine At.block_ret ?_
      | refine At.loop_ret ?_
      | refine At.then_exit ?_
      | refine At.block_here rfl ?_
      | refine At.block_there rfl ?_
      | refine At.loop_exit ?_
      | refine At.cut_ret ?_
      | refine At.cutA_ret ?_
      | refine At.cutA_exit ?_
      | refine At.cut_exit ?_
      | (refine At.cut_same ?_; repeat' (first | exact FLe.nil _ | refine FLe.cons rfl rfl ?_))
      | refine KW.cond_t rfl (by first | with_reducible rfl | decide) ?_
      | refine KW.cond_f rfl (by first | with_reducible rfl | decide) ?_
      | refine KW.draw 0 (by decide +kernel) ?_
      | refine KW.drawU rfl (by decide +kernel) ?_
      | refine KD.zero ?_
      | refine KD.skip' rfl (by first | with_reducible rfl | decide) rfl rfl ?_
      | refine KO.skip' rfl (by first | with_reducible rfl | decide) rfl rfl ?_
      | refine KO.skip0' rfl (by first | with_reducible rfl | decide) rfl ?_
      | ((first | apply KO.val rfl rfl rfl ?kq ?_ | apply KO.valIn rfl rfl rfl ?kq ?_ | apply KD.val rfl rfl rfl ?kq ?_ | apply KD.valIn rfl rfl rfl ?kq ?_); (case kq => ((first | ((first | apply qt_add rfl rfl rfl ?hi ?om | apply qt_sub rfl rfl rfl ?hi ?om | apply qt_mul rfl rfl rfl ?hi ?om | apply qt_remN rfl rfl rfl ?hi ?om | apply qt_quoN rfl rfl rfl ?hi ?om | apply qt_addU rfl rfl rfl ?hi ?om | apply qt_subU rfl rfl rfl ?hi ?om | apply qt_mulU rfl rfl rfl ?hi ?om | apply qt_quoU rfl rfl rfl ?hi ?om | apply qt_convI rfl rfl rfl rfl ?hi ?om | apply qt_convU rfl rfl rfl rfl ?hi ?om | apply qt_indexAddr_arr rfl rfl rfl ?hi rfl rfl ?om | apply qt_indexAddr_slice rfl rfl rfl ?hi rfl rfl ?om | apply qt_sliceL rfl rfl rfl ?hi rfl rfl ?om | apply qt_sliceH rfl rfl rfl ?hi rfl rfl ?om | apply qt_sliceLH rfl rfl rfl rfl ?hi rfl rfl ?om | apply qt_sliceLHM rfl rfl rfl rfl rfl ?hi rfl rfl ?om | apply qt_sliceHM rfl rfl rfl rfl ?hi rfl rfl ?om); (case om => (intro hg; first | omega | (simp only [Bool.or_eq_false_iff, Bool.or_eq_true, Bool.and_eq_true, Bool.and_eq_false_iff, Bool.not_eq_true', Bool.not_eq_false', Bool.not_eq_true, Bool.not_eq_false, decide_eq_true_eq, decide_eq_false_iff_not, Bool.not_not, beq_iff_eq, bne_iff_ne, Bool.beq_eq_decide_eq] at hg; omega)))) | apply qt_ev rfl ?hi | ((first | apply qt_load1 rfl rfl ?hi rfl rfl ?hm ?hc | apply qt_loadN rfl rfl ?hi rfl rfl rfl ?hm ?hc); (case hm => repeat (first | exact List.Mem.head _ | apply List.Mem.tail _ | apply List.mem_append_right _)); (case hc => rfl)) | apply qt_pick_t rfl rfl (by first | with_reducible rfl | decide) rfl ?hi | apply qt_pick_f rfl rfl (by first | with_reducible rfl | decide) rfl ?hi | ((first | apply qt_pick_and rfl rfl rfl ?hi ?pj | apply qt_pick_or rfl rfl rfl ?hi ?pj); (case pj => (intro h h2; first | with_reducible exact h2 | with_reducible rfl | (simp [h2]; done) | (simp_all; done)))) | apply qt_build rfl rfl ?hi rfl | apply qt_eqs rfl rfl rfl ?hi rfl (Or.inl rfl) | apply qt_nes rfl rfl rfl ?hi rfl (Or.inl rfl) | ((first | apply qt_rem rfl rfl rfl ?hi ?om | apply qt_quo rfl rfl rfl ?hi ?om | apply qt_shr rfl rfl rfl ?hi ?om | apply qt_shl rfl rfl rfl ?hi ?om); (case om => (intro hg; first | omega | (simp only [Bool.or_eq_false_iff, Bool.or_eq_true, Bool.and_eq_true, Bool.and_eq_false_iff, Bool.not_eq_true', Bool.not_eq_false', Bool.not_eq_true, Bool.not_eq_false, decide_eq_true_eq, decide_eq_false_iff_not, Bool.not_not, beq_iff_eq, bne_iff_ne, Bool.beq_eq_decide_eq] at hg; omega))))); (case hi => (intro h; (repeat' (first | with_reducible exact alln | with_reducible refine allc ?_ ?_ | with_reducible refine andi ?_ ?_)); all_goals (first | with_reducible rfl | with_reducible exact h | with_reducible exact andl h | with_reducible exact andr h | with_reducible exact andl (andl h) | (simp only [h, Bool.and_self]; done) | (simp [h]; done) | (simp_all; done)))))))
      | (refine KO.box rfl rfl rfl rfl rfl rfl ?_; intro _ _)
      | (refine KO.alloc rfl rfl rfl rfl rfl rfl ?_; intro _ _)
      | (refine KO.buildSlice rfl rfl rfl rfl rfl rfl rfl rfl rfl rfl rfl rfl rfl rfl ?_; intro _ _)
      | ((first | apply KO.store (i := 0) rfl rfl rfl rfl rfl rfl rfl rfl ?hl rfl ?hw ?ho ?hs | apply KO.store (i := 1) rfl rfl rfl rfl rfl rfl rfl rfl ?hl rfl ?hw ?ho ?hs | apply KO.store (i := 2) rfl rfl rfl rfl rfl rfl rfl rfl ?hl rfl ?hw ?ho ?hs | apply KO.store (i := 3) rfl rfl rfl rfl rfl rfl rfl rfl ?hl rfl ?hw ?ho ?hs | apply KO.store (i := 4) rfl rfl rfl rfl rfl rfl rfl rfl ?hl rfl ?hw ?ho ?hs | apply KO.store (i := 5) rfl rfl rfl rfl rfl rfl rfl rfl ?hl rfl ?hw ?ho ?hs | apply KO.store (i := 6) rfl rfl rfl rfl rfl rfl rfl rfl ?hl rfl ?hw ?ho ?hs | apply KO.store (i := 7) rfl rfl rfl rfl rfl rfl rfl rfl ?hl rfl ?hw ?ho ?hs); (case hl => rfl); (case hw => rfl); (case ho => rfl); (case hs => rfl))
      | (refine KW.cond rfl ?_ ?_ <;> (intro hc; try simp only [Bool.or_eq_false_iff, Bool.or_eq_true, Bool.and_eq_true, Bool.and_eq_false_iff, Bool.not_eq_true', Bool.not_eq_false', Bool.not_eq_true, Bool.not_eq_false, decide_eq_true_eq, decide_eq_false_iff_not, Bool.not_not, beq_iff_eq, bne_iff_ne, Bool.beq_eq_decide_eq] at hc))
      | exact absurd trivial ‹¬True›
      | fail)
    rename_i bw hbw
    refine KW.loop (fun s : SN => s.i ≤ m ∧ s.P.length ≤ 8 * s.i ∧ Byt s.P ∧ Vec 5 1 s.P.length (by8 s.P) s.u s.φw ∧ Vec 5 1 s.P.length (by8 s.P) s.o s.φo ∧ Byt s.R ∧ s.R.length ≤ 300 ∧ s.R.length ≤ s.cr ∧ s.R.length ≤ s.cl' ∧
        SL E.β [(b0, cl (by8 ys) 5)] 1 s.R.length (by8 s.R) s.pr ∧ (s.pr = none → s.cr = 0 ∧ s.R.length = 0) ∧ SL E.β [] 1 s.R.length (by8 s.R) s.pl)
      (fun s => ([(9, true, .int .i64 (s.i : Int)), (8, true, .slice s.pl s.R.length s.cl'), (7, true, s.o), (6, true, .pointer (some ⟨br, 0, none⟩)), (5, true, .pointer (some ⟨bw, 0, none⟩)), (0, true, .slice p m c)],
        (bw, cl [s.u] 26) :: (br, cl [.slice s.pr s.R.length s.cr] 55) :: (b0, cl (by8 ys) 5) :: (s.φw ++ s.φo))) (fun s => m - s.i) ⟨0, [], .slice none 0 0, [], .slice none 0 0, [], ys, some ⟨b0, 0, none⟩, n, q, d⟩
      ?_ ?_ ?_
    · have hyl := hy.len
      have hyc := hy.cap
      refine ⟨by dsimp only; omega, by simp, fun x hx => (nomatch hx), Vec.nil 5 1, Vec.nil 5 1, hy.byt, by dsimp only; omega, by dsimp only; omega, by dsimp only; omega, ?_, fun h => (nomatch h), ?_⟩
      · dsimp only
        exact SL.ofBlk (e := 5) (List.Mem.head _) (by rw [by8_len]; omega)
      · dsimp only
        rw [hyl]
        exact hy.sl
    · refine Le.perm ?_ ?_
      · refine FLe.cons rfl rfl (FLe.cons rfl (by dsimp only; rw [hy.len]) (FLe.cons rfl rfl (FLe.cons rfl rfl (FLe.cons rfl rfl (FLe.cons rfl rfl (FLe.nil _))))))
      · dsimp only
        rw [hy.len]
        exact (by classical exact List.perm_iff_count.2 (fun _ => by first | (simp only [List.count_append, List.count_cons, List.count_nil, List.append_assoc, List.cons_append, List.nil_append]; done) | (simp only [List.count_append, List.count_cons, List.count_nil, List.append_assoc, List.cons_append, List.nil_append]; omega)))
    rintro ⟨i, P, u, φw, o, φo, R, pr, cr, pl, cl'⟩ ⟨hi, hPi, hPB, hu, ho, hRB, hR3, hRc, hRl, hSr, hpr, hSl⟩
    dsimp only at hi hPi hPB hu ho hRB hR3 hRc hRl hSr hpr hSl ⊢
    repeat' (first
      | refine KW.seq ?_
      | refine KW.region ?_
      | refine KO.nil ?_
      | refine At.then_normal ?_
      | refine KW.skip ?_
      | refine KW.ret ?_
      | refine At.then_ret ?_
      | refine KW.block ?_
      | refine KW.exit ?_
      | refine At.block_normal ?_
      | refine At.block_ret ?_
      | refine At.loop_ret ?_
      | refine At.then_exit ?_
      | refine At.block_here rfl ?_
      | refine At.block_there rfl ?_
      | refine At.loop_exit ?_
      | refine At.cut_ret ?_
      | refine At.cutA_ret ?_
      | refine At.cutA_exit ?_
      | refine At.cut_exit ?_
      | (refine At.cut_same ?_; repeat' (first | exact FLe.nil _ | refine FLe.cons rfl rfl ?_))
      | refine KW.cond_t rfl (by first | with_reducible rfl | decide) ?_
      | refine KW.cond_f rfl (by first | with_reducible rfl | decide) ?_
      | refine KW.draw (id := 12) 10 (by decide +kernel) ?_
      | refine KW.drawE (id := 17) 10 5 (by decide +kernel) rfl ?_
      | refine KDH.mid2 ?_
      | refine KDH.mid3 ?_
      | refine KDH.done ?_
      | refine KDM.head0 ?_
      | refine KDM.head1 ?_
      | refine KDM.fin ?_
      | refine KDH.skip0' rfl (by first | with_reducible rfl | decide) rfl rfl ?_
      | refine KDH.skip1' rfl (by first | with_reducible rfl | decide) rfl rfl ?_
      | refine KDE.skip rfl rfl rfl ?_
      | ((first | refine KDM.eo2f rfl rfl rfl (eo_alloc rfl rfl rfl) ?_ | refine KDM.eo2t rfl rfl rfl (eo_alloc rfl rfl rfl) ?_); rintro _ _ ⟨_, _, rfl, rfl⟩; refine ⟨?sub, ?_⟩; (case sub => (intro _ hp; first | exact hp | (cases hp; done) | (repeat (first | exact hp | apply List.mem_cons_of_mem | apply List.mem_append_right)) | (simp_all; done))))
      | ((first | refine KDM.eo2f rfl rfl rfl (eo_box rfl rfl rfl) ?_ | refine KDM.eo2t rfl rfl rfl (eo_box rfl rfl rfl) ?_); rintro _ _ ⟨_, _, rfl, rfl⟩; refine ⟨?sub, ?_⟩; (case sub => (intro _ hp; first | exact hp | (cases hp; done) | (repeat (first | exact hp | apply List.mem_cons_of_mem | apply List.mem_append_right)) | (simp_all; done))))
      | ((first | refine KDM.eo2f rfl rfl rfl (eo_buildSlice rfl rfl rfl rfl rfl rfl rfl rfl rfl rfl rfl) ?_ | refine KDM.eo2t rfl rfl rfl (eo_buildSlice rfl rfl rfl rfl rfl rfl rfl rfl rfl rfl rfl) ?_); rintro _ _ ⟨_, _, rfl, rfl⟩; refine ⟨?sub, ?_⟩; (case sub => (intro _ hp; first | exact hp | (cases hp; done) | (repeat (first | exact hp | apply List.mem_cons_of_mem | apply List.mem_append_right)) | (simp_all; done))))
      | ((first | refine KDM.eo30 rfl rfl (eo_store (i := 0) rfl rfl rfl rfl rfl rfl rfl rfl rfl rfl rfl) ?_ | refine KDM.eo30 rfl rfl (eo_store (i := 1) rfl rfl rfl rfl rfl rfl rfl rfl rfl rfl rfl) ?_ | refine KDM.eo30 rfl rfl (eo_store (i := 2) rfl rfl rfl rfl rfl rfl rfl rfl rfl rfl rfl) ?_ | refine KDM.eo30 rfl rfl (eo_store (i := 3) rfl rfl rfl rfl rfl rfl rfl rfl rfl rfl rfl) ?_ | refine KDM.eo30 rfl rfl (eo_store (i := 4) rfl rfl rfl rfl rfl rfl rfl rfl rfl rfl rfl) ?_ | refine KDM.eo30 rfl rfl (eo_store (i := 5) rfl rfl rfl rfl rfl rfl rfl rfl rfl rfl rfl) ?_ | refine KDM.eo30 rfl rfl (eo_store (i := 6) rfl rfl rfl rfl rfl rfl rfl rfl rfl rfl rfl) ?_ | refine KDM.eo30 rfl rfl (eo_store (i := 7) rfl rfl rfl rfl rfl rfl rfl rfl rfl rfl rfl) ?_); rintro _ _ rfl; refine ⟨?sub, ?_⟩; (case sub => (intro _ hp; first | exact hp | (cases hp; done) | (repeat (first | exact hp | apply List.mem_cons_of_mem | apply List.mem_append_right)) | (simp_all; done))))
      | refine KW.draw 0 (by decide +kernel) ?_
      | refine KW.drawU rfl (by decide +kernel) ?_
      | refine KD.zero ?_
      | refine KD.skip' rfl (by first | with_reducible rfl | decide) rfl rfl ?_
      | refine KO.skip' rfl (by first | with_reducible rfl | decide) rfl rfl ?_
      | refine KO.skip0' rfl (by first | with_reducible rfl | decide) rfl ?_
      | ((first | apply KO.val rfl rfl rfl ?kq ?_ | apply KO.valIn rfl rfl rfl ?kq ?_ | apply KD.val rfl rfl rfl ?kq ?_ | apply KD.valIn rfl rfl rfl ?kq ?_ | apply KDH.val0 rfl rfl rfl ?kq ?_ | apply KDH.val1 rfl rfl rfl ?kq ?_ | apply KDH.valIn0 rfl rfl rfl ?kq ?_ | apply KDH.valIn1 rfl rfl rfl ?kq ?_ | apply KDE.val rfl rfl rfl ?kq ?_ | apply KDE.valIn rfl rfl rfl ?kq ?_ | apply KDM.q2f rfl rfl rfl ?kq ?ksub ?_ | apply KDM.q2t rfl rfl rfl ?kq ?ksub ?_); (try (case ksub => (intro _ hp; first | exact hp | (cases hp; done) | (repeat (first | exact hp | apply List.mem_cons_of_mem | apply List.mem_append_right)) | (simp_all; done)))); (case kq => ((first | ((first | apply qt_add rfl rfl rfl ?hi ?om | apply qt_sub rfl rfl rfl ?hi ?om | apply qt_mul rfl rfl rfl ?hi ?om | apply qt_remN rfl rfl rfl ?hi ?om | apply qt_quoN rfl rfl rfl ?hi ?om | apply qt_addU rfl rfl rfl ?hi ?om | apply qt_subU rfl rfl rfl ?hi ?om | apply qt_mulU rfl rfl rfl ?hi ?om | apply qt_quoU rfl rfl rfl ?hi ?om | apply qt_convI rfl rfl rfl rfl ?hi ?om | apply qt_convU rfl rfl rfl rfl ?hi ?om | apply qt_indexAddr_arr rfl rfl rfl ?hi rfl rfl ?om | apply qt_indexAddr_slice rfl rfl rfl ?hi rfl rfl ?om | apply qt_sliceL rfl rfl rfl ?hi rfl rfl ?om | apply qt_sliceH rfl rfl rfl ?hi rfl rfl ?om | apply qt_sliceLH rfl rfl rfl rfl ?hi rfl rfl ?om | apply qt_sliceLHM rfl rfl rfl rfl rfl ?hi rfl rfl ?om | apply qt_sliceHM rfl rfl rfl rfl ?hi rfl rfl ?om); (case om => (intro hg; first | omega | (simp only [Bool.or_eq_false_iff, Bool.or_eq_true, Bool.and_eq_true, Bool.and_eq_false_iff, Bool.not_eq_true', Bool.not_eq_false', Bool.not_eq_true, Bool.not_eq_false, decide_eq_true_eq, decide_eq_false_iff_not, Bool.not_not, beq_iff_eq, bne_iff_ne, Bool.beq_eq_decide_eq] at hg; omega)))) | apply qt_ev rfl ?hi | ((first | apply qt_load1 rfl rfl ?hi rfl rfl ?hm ?hc | apply qt_loadN rfl rfl ?hi rfl rfl rfl ?hm ?hc); (case hm => repeat (first | exact List.Mem.head _ | apply List.Mem.tail _ | apply List.mem_append_right _)); (case hc => rfl)) | refine qt_call rfl rfl ?hi (fun hg => awake_p) | apply qt_pick_t rfl rfl (by first | with_reducible rfl | decide) rfl ?hi | apply qt_pick_f rfl rfl (by first | with_reducible rfl | decide) rfl ?hi | ((first | apply qt_pick_and rfl rfl rfl ?hi ?pj | apply qt_pick_or rfl rfl rfl ?hi ?pj); (case pj => (intro h h2; first | with_reducible exact h2 | with_reducible rfl | (simp [h2]; done) | (simp_all; done)))) | apply qt_build rfl rfl ?hi rfl | apply qt_eqs rfl rfl rfl ?hi rfl (Or.inl rfl) | apply qt_nes rfl rfl rfl ?hi rfl (Or.inl rfl) | ((first | apply qt_rem rfl rfl rfl ?hi ?om | apply qt_quo rfl rfl rfl ?hi ?om | apply qt_shr rfl rfl rfl ?hi ?om | apply qt_shl rfl rfl rfl ?hi ?om); (case om => (intro hg; first | omega | (simp only [Bool.or_eq_false_iff, Bool.or_eq_true, Bool.and_eq_true, Bool.and_eq_false_iff, Bool.not_eq_true', Bool.not_eq_false', Bool.not_eq_true, Bool.not_eq_false, decide_eq_true_eq, decide_eq_false_iff_not, Bool.not_not, beq_iff_eq, bne_iff_ne, Bool.beq_eq_decide_eq] at hg; omega))))); (case hi => (intro h; (repeat' (first | with_reducible exact alln | with_reducible refine allc ?_ ?_ | with_reducible refine andi ?_ ?_)); all_goals (first | with_reducible rfl | with_reducible exact h | with_reducible exact andl h | with_reducible exact andr h | with_reducible exact andl (andl h) | (simp only [h, Bool.and_self]; done) | (simp [h]; done) | (simp_all; done)))))))
      | (refine KO.box rfl rfl rfl rfl rfl rfl ?_; intro _ _)
      | (refine KO.alloc rfl rfl rfl rfl rfl rfl ?_; intro _ _)
      | (refine KO.buildSlice rfl rfl rfl rfl rfl rfl rfl rfl rfl rfl rfl rfl rfl rfl ?_; intro _ _)
      | ((first | apply KO.store (i := 0) rfl rfl rfl rfl rfl rfl rfl rfl ?hl rfl ?hw ?ho ?hs | apply KO.store (i := 1) rfl rfl rfl rfl rfl rfl rfl rfl ?hl rfl ?hw ?ho ?hs | apply KO.store (i := 2) rfl rfl rfl rfl rfl rfl rfl rfl ?hl rfl ?hw ?ho ?hs | apply KO.store (i := 3) rfl rfl rfl rfl rfl rfl rfl rfl ?hl rfl ?hw ?ho ?hs | apply KO.store (i := 4) rfl rfl rfl rfl rfl rfl rfl rfl ?hl rfl ?hw ?ho ?hs | apply KO.store (i := 5) rfl rfl rfl rfl rfl rfl rfl rfl ?hl rfl ?hw ?ho ?hs | apply KO.store (i := 6) rfl rfl rfl rfl rfl rfl rfl rfl ?hl rfl ?hw ?ho ?hs | apply KO.store (i := 7) rfl rfl rfl rfl rfl rfl rfl rfl ?hl rfl ?hw ?ho ?hs); (case hl => rfl); (case hw => rfl); (case ho => rfl); (case hs => rfl))
      | (refine KW.cond rfl ?_ ?_ <;> (intro hc; try simp only [Bool.or_eq_false_iff, Bool.or_eq_true, Bool.and_eq_true, Bool.and_eq_false_iff, Bool.not_eq_true', Bool.not_eq_false', Bool.not_eq_true, Bool.not_eq_false, decide_eq_true_eq, decide_eq_false_iff_not, Bool.not_not, beq_iff_eq, bne_iff_ne, Bool.beq_eq_decide_eq] at hc))
      | exact absurd trivial ‹¬True›
      | ((have hjn : (0 : Int) ≤ i ∧ (i : Int) < m := by omega); (obtain ⟨bl, ol, rfl, h1⟩ := hp.2 (by omega)); (obtain ⟨⟨X, sz⟩, hx⟩ : ∃ z, ls[i]? = some z := ⟨_, List.getElem?_eq_getElem (by omega)⟩); (obtain ⟨hX, hs1⟩ := hls _ (List.mem_of_getElem? hx)); clear hp)
      | ((first | apply KO.val (g := true) rfl rfl rfl | apply KD.val (g := true) rfl rfl rfl | apply KDE.val (g := true) rfl rfl rfl | apply KDE.val rfl rfl rfl | apply KDH.val0 (g := true) rfl rfl rfl | apply KDH.val1 (g := true) rfl rfl rfl | apply KO.val rfl rfl rfl | apply KD.val rfl rfl rfl | apply KDH.val0 rfl rfl rfl | apply KO.valIn rfl rfl rfl | apply KD.valIn rfl rfl rfl); (apply qt_loadN_cel rfl rfl ?hi rfl rfl rfl ?hl ?hc); (case hc => first | exact fun _ => ((celP h1 hx).1.mono (fun _ hq => by cases hq)) | exact fun _ => ((celP h1 hx).2.mono (fun _ hq => by cases hq)) | exact fun hg => ((celP h1 hx).1.mono (fun _ hq => by cases hq)) | exact fun hg => ((celP h1 hx).2.mono (fun _ hq => by cases hq))); (case hl => rfl); (case hi => (first | exact fun _ => rfl | (intro h; first | rfl | exact h | (simp [h]; done) | (simp_all; done)))))
      | ((first | apply KO.val (g := true) rfl rfl rfl | apply KD.val (g := true) rfl rfl rfl | apply KDE.val (g := true) rfl rfl rfl | apply KDE.val rfl rfl rfl | apply KDH.val0 (g := true) rfl rfl rfl | apply KDH.val1 (g := true) rfl rfl rfl | apply KO.val rfl rfl rfl | apply KD.val rfl rfl rfl | apply KDH.val0 rfl rfl rfl | apply KO.valIn rfl rfl rfl | apply KD.valIn rfl rfl rfl); (apply qt_load1_cel rfl rfl ?hi rfl rfl ?hc); (case hc => first | exact fun _ => ((celP h1 hx).1.mono (fun _ hq => by cases hq)) | exact fun _ => ((celP h1 hx).2.mono (fun _ hq => by cases hq)) | exact fun hg => ((celP h1 hx).1.mono (fun _ hq => by cases hq)) | exact fun hg => ((celP h1 hx).2.mono (fun _ hq => by cases hq))); (case hi => (first | exact fun _ => rfl | (intro h; first | rfl | exact h | (simp [h]; done) | (simp_all; done)))))
      | fail)
    · dsimp only at hX hs1
      refine KO.callF ((bw, cl [u] 26) :: φw) ((br, cl [.slice pr R.length cr] 55) :: (b0, cl (by8 ys) 5) :: φo) (by classical exact List.perm_iff_count.2 (fun _ => by first | (simp only [List.count_append, List.count_cons, List.count_nil, List.append_assoc, List.cons_append, List.nil_append]; done) | (simp only [List.count_append, List.count_cons, List.count_nil, List.append_assoc, List.cons_append, List.nil_append]; omega))) rfl rfl rfl rfl rfl rfl rfl (Put_p _ bw P.length u φw P rfl hu (by omega) X sz hX) ?_
      rintro _ _ ⟨rfl, u2, φw2, hu2, rfl⟩
      repeat' (first
        | refine KW.seq ?_
        | refine KW.region ?_
        | refine KO.nil ?_
        | refine At.then_normal ?_
        | refine KW.skip ?_
        | refine KW.ret ?_
        | refine At.then_ret ?_
        | refine KW.block ?_
        | refine KW.exit ?_
        | refine At.block_normal ?_
        | refine At.block_ret ?_
        | refine At.loop_ret ?_
        | refine At.then_exit ?_
        | refine At.block_here rfl ?_
        | refine At.block_there rfl ?_
        | refine At.loop_exit ?_
        | refine At.cut_ret ?_
        | refine At.cutA_ret ?_
        | refine At.cutA_exit ?_
        | refine At.cut_exit ?_
        | (refine At.cut_same ?_; repeat' (first | exact FLe.nil _ | refine FLe.cons rfl rfl ?_))
        | refine KW.cond_t rfl (by first | with_reducible rfl | decide) ?_
        | refine KW.cond_f rfl (by first | with_reducible rfl | decide) ?_
        | refine KW.draw (id := 12) 10 (by decide +kernel) ?_
        | refine KW.drawE (id := 17) 10 5 (by decide +kernel) rfl ?_
        | refine KDH.mid2 ?_
        | refine KDH.mid3 ?_
        | refine KDH.done ?_
        | refine KDM.head0 ?_
        | refine KDM.head1 ?_
        | refine KDM.fin ?_
        | refine KDH.skip0' rfl (by first | with_reducible rfl | decide) rfl rfl ?_
        | refine KDH.skip1' rfl (by first | with_reducible rfl | decide) rfl rfl ?_
        | refine KDE.skip rfl rfl rfl ?_
        | ((first | refine KDM.eo2f rfl rfl rfl (eo_alloc rfl rfl rfl) ?_ | refine KDM.eo2t rfl rfl rfl (eo_alloc rfl rfl rfl) ?_); rintro _ _ ⟨_, _, rfl, rfl⟩; refine ⟨?sub, ?_⟩; (case sub => (intro _ hp; first | exact hp | (cases hp; done) | (repeat (first | exact hp | apply List.mem_cons_of_mem | apply List.mem_append_right)) | (simp_all; done))))
        | ((first | refine KDM.eo2f rfl rfl rfl (eo_box rfl rfl rfl) ?_ | refine KDM.eo2t rfl rfl rfl (eo_box rfl rfl rfl) ?_); rintro _ _ ⟨_, _, rfl, rfl⟩; refine ⟨?sub, ?_⟩; (case sub => (intro _ hp; first | exact hp | (cases hp; done) | (repeat (first | exact hp | apply List.mem_cons_of_mem | apply List.mem_append_right)) | (simp_all; done))))
        | ((first | refine KDM.eo2f rfl rfl rfl (eo_buildSlice rfl rfl rfl rfl rfl rfl rfl rfl rfl rfl rfl) ?_ | refine KDM.eo2t rfl rfl rfl (eo_buildSlice rfl rfl rfl rfl rfl rfl rfl rfl rfl rfl rfl) ?_); rintro _ _ ⟨_, _, rfl, rfl⟩; refine ⟨?sub, ?_⟩; (case sub => (intro _ hp; first | exact hp | (cases hp; done) | (repeat (first | exact hp | apply List.mem_cons_of_mem | apply List.mem_append_right)) | (simp_all; done))))
        | ((first | refine KDM.eo30 rfl rfl (eo_store (i := 0) rfl rfl rfl rfl rfl rfl rfl rfl rfl rfl rfl) ?_ | refine KDM.eo30 rfl rfl (eo_store (i := 1) rfl rfl rfl rfl rfl rfl rfl rfl rfl rfl rfl) ?_ | refine KDM.eo30 rfl rfl (eo_store (i := 2) rfl rfl rfl rfl rfl rfl rfl rfl rfl rfl rfl) ?_ | refine KDM.eo30 rfl rfl (eo_store (i := 3) rfl rfl rfl rfl rfl rfl rfl rfl rfl rfl rfl) ?_ | refine KDM.eo30 rfl rfl (eo_store (i := 4) rfl rfl rfl rfl rfl rfl rfl rfl rfl rfl rfl) ?_ | refine KDM.eo30 rfl rfl (eo_store (i := 5) rfl rfl rfl rfl rfl rfl rfl rfl rfl rfl rfl) ?_ | refine KDM.eo30 rfl rfl (eo_store (i := 6) rfl rfl rfl rfl rfl rfl rfl rfl rfl rfl rfl) ?_ | refine KDM.eo30 rfl rfl (eo_store (i := 7) rfl rfl rfl rfl rfl rfl rfl rfl rfl rfl rfl) ?_); rintro _ _ rfl; refine ⟨?sub, ?_⟩; (case sub => (intro _ hp; first | exact hp | (cases hp; done) | (repeat (first | exact hp | apply List.mem_cons_of_mem | apply List.mem_append_right)) | (simp_all; done))))
        | refine KW.draw 0 (by decide +kernel) ?_
        | refine KW.drawU rfl (by decide +kernel) ?_
        | refine KD.zero ?_
        | refine KD.skip' rfl (by first | with_reducible rfl | decide) rfl rfl ?_
        | refine KO.skip' rfl (by first | with_reducible rfl | decide) rfl rfl ?_
        | refine KO.skip0' rfl (by first | with_reducible rfl | decide) rfl ?_
        | ((first | apply KO.val rfl rfl rfl ?kq ?_ | apply KO.valIn rfl rfl rfl ?kq ?_ | apply KD.val rfl rfl rfl ?kq ?_ | apply KD.valIn rfl rfl rfl ?kq ?_ | apply KDH.val0 rfl rfl rfl ?kq ?_ | apply KDH.val1 rfl rfl rfl ?kq ?_ | apply KDH.valIn0 rfl rfl rfl ?kq ?_ | apply KDH.valIn1 rfl rfl rfl ?kq ?_ | apply KDE.val rfl rfl rfl ?kq ?_ | apply KDE.valIn rfl rfl rfl ?kq ?_ | apply KDM.q2f rfl rfl rfl ?kq ?ksub ?_ | apply KDM.q2t rfl rfl rfl ?kq ?ksub ?_); (try (case ksub => (intro _ hp; first | exact hp | (cases hp; done) | (repeat (first | exact hp | apply List.mem_cons_of_mem | apply List.mem_append_right)) | (simp_all; done)))); (case kq => ((first | ((first | apply qt_add rfl rfl rfl ?hi ?om | apply qt_sub rfl rfl rfl ?hi ?om | apply qt_mul rfl rfl rfl ?hi ?om | apply qt_remN rfl rfl rfl ?hi ?om | apply qt_quoN rfl rfl rfl ?hi ?om | apply qt_addU rfl rfl rfl ?hi ?om | apply qt_subU rfl rfl rfl ?hi ?om | apply qt_mulU rfl rfl rfl ?hi ?om | apply qt_quoU rfl rfl rfl ?hi ?om | apply qt_convI rfl rfl rfl rfl ?hi ?om | apply qt_convU rfl rfl rfl rfl ?hi ?om | apply qt_indexAddr_arr rfl rfl rfl ?hi rfl rfl ?om | apply qt_indexAddr_slice rfl rfl rfl ?hi rfl rfl ?om | apply qt_sliceL rfl rfl rfl ?hi rfl rfl ?om | apply qt_sliceH rfl rfl rfl ?hi rfl rfl ?om | apply qt_sliceLH rfl rfl rfl rfl ?hi rfl rfl ?om | apply qt_sliceLHM rfl rfl rfl rfl rfl ?hi rfl rfl ?om | apply qt_sliceHM rfl rfl rfl rfl ?hi rfl rfl ?om); (case om => (intro hg; first | omega | (simp only [Bool.or_eq_false_iff, Bool.or_eq_true, Bool.and_eq_true, Bool.and_eq_false_iff, Bool.not_eq_true', Bool.not_eq_false', Bool.not_eq_true, Bool.not_eq_false, decide_eq_true_eq, decide_eq_false_iff_not, Bool.not_not, beq_iff_eq, bne_iff_ne, Bool.beq_eq_decide_eq] at hg; omega)))) | apply qt_ev rfl ?hi | ((first | apply qt_load1 rfl rfl ?hi rfl rfl ?hm ?hc | apply qt_loadN rfl rfl ?hi rfl rfl rfl ?hm ?hc); (case hm => repeat (first | exact List.Mem.head _ | apply List.Mem.tail _ | apply List.mem_append_right _)); (case hc => rfl)) | apply qt_pick_t rfl rfl (by first | with_reducible rfl | decide) rfl ?hi | apply qt_pick_f rfl rfl (by first | with_reducible rfl | decide) rfl ?hi | ((first | apply qt_pick_and rfl rfl rfl ?hi ?pj | apply qt_pick_or rfl rfl rfl ?hi ?pj); (case pj => (intro h h2; first | with_reducible exact h2 | with_reducible rfl | (simp [h2]; done) | (simp_all; done)))) | apply qt_build rfl rfl ?hi rfl | apply qt_eqs rfl rfl rfl ?hi rfl (Or.inl rfl) | apply qt_nes rfl rfl rfl ?hi rfl (Or.inl rfl) | ((first | apply qt_rem rfl rfl rfl ?hi ?om | apply qt_quo rfl rfl rfl ?hi ?om | apply qt_shr rfl rfl rfl ?hi ?om | apply qt_shl rfl rfl rfl ?hi ?om); (case om => (intro hg; first | omega | (simp only [Bool.or_eq_false_iff, Bool.or_eq_true, Bool.and_eq_true, Bool.and_eq_false_iff, Bool.not_eq_true', Bool.not_eq_false', Bool.not_eq_true, Bool.not_eq_false, decide_eq_true_eq, decide_eq_false_iff_not, Bool.not_not, beq_iff_eq, bne_iff_ne, Bool.beq_eq_decide_eq] at hg; omega))))); (case hi => (intro h; (repeat' (first | with_reducible exact alln | with_reducible refine allc ?_ ?_ | with_reducible refine andi ?_ ?_)); all_goals (first | with_reducible rfl | with_reducible exact h | with_reducible exact andl h | with_reducible exact andr h | with_reducible exact andl (andl h) | (simp only [h, Bool.and_self]; done) | (simp [h]; done) | (simp_all; done)))))))
        | (refine KO.box rfl rfl rfl rfl rfl rfl ?_; intro _ _)
        | (refine KO.alloc rfl rfl rfl rfl rfl rfl ?_; intro _ _)
        | (refine KO.buildSlice rfl rfl rfl rfl rfl rfl rfl rfl rfl rfl rfl rfl rfl rfl ?_; intro _ _)
        | ((first | apply KO.store (i := 0) rfl rfl rfl rfl rfl rfl rfl rfl ?hl rfl ?hw ?ho ?hs | apply KO.store (i := 1) rfl rfl rfl rfl rfl rfl rfl rfl ?hl rfl ?hw ?ho ?hs | apply KO.store (i := 2) rfl rfl rfl rfl rfl rfl rfl rfl ?hl rfl ?hw ?ho ?hs | apply KO.store (i := 3) rfl rfl rfl rfl rfl rfl rfl rfl ?hl rfl ?hw ?ho ?hs | apply KO.store (i := 4) rfl rfl rfl rfl rfl rfl rfl rfl ?hl rfl ?hw ?ho ?hs | apply KO.store (i := 5) rfl rfl rfl rfl rfl rfl rfl rfl ?hl rfl ?hw ?ho ?hs | apply KO.store (i := 6) rfl rfl rfl rfl rfl rfl rfl rfl ?hl rfl ?hw ?ho ?hs | apply KO.store (i := 7) rfl rfl rfl rfl rfl rfl rfl rfl ?hl rfl ?hw ?ho ?hs); (case hl => rfl); (case hw => rfl); (case ho => rfl); (case hs => rfl))
        | (refine KW.cond rfl ?_ ?_ <;> (intro hc; try simp only [Bool.or_eq_false_iff, Bool.or_eq_true, Bool.and_eq_true, Bool.and_eq_false_iff, Bool.not_eq_true', Bool.not_eq_false', Bool.not_eq_true, Bool.not_eq_false, decide_eq_true_eq, decide_eq_false_iff_not, Bool.not_not, beq_iff_eq, bne_iff_ne, Bool.beq_eq_decide_eq] at hc))
        | exact absurd trivial ‹¬True›
        | ((have hjn : (0 : Int) ≤ i ∧ (i : Int) < m := by omega); (obtain ⟨bl, ol, rfl, h1⟩ := hp.2 (by omega)); (obtain ⟨⟨X, sz⟩, hx⟩ : ∃ z, ls[i]? = some z := ⟨_, List.getElem?_eq_getElem (by omega)⟩); (obtain ⟨hX, hs1⟩ := hls _ (List.mem_of_getElem? hx)); clear hp)
        | ((first | apply KO.val (g := true) rfl rfl rfl | apply KD.val (g := true) rfl rfl rfl | apply KDE.val (g := true) rfl rfl rfl | apply KDE.val rfl rfl rfl | apply KDH.val0 (g := true) rfl rfl rfl | apply KDH.val1 (g := true) rfl rfl rfl | apply KO.val rfl rfl rfl | apply KD.val rfl rfl rfl | apply KDH.val0 rfl rfl rfl | apply KO.valIn rfl rfl rfl | apply KD.valIn rfl rfl rfl); (apply qt_loadN_cel rfl rfl ?hi rfl rfl rfl ?hl ?hc); (case hc => first | exact fun _ => ((celP h1 hx).1.mono (fun _ hq => by cases hq)) | exact fun _ => ((celP h1 hx).2.mono (fun _ hq => by cases hq)) | exact fun hg => ((celP h1 hx).1.mono (fun _ hq => by cases hq)) | exact fun hg => ((celP h1 hx).2.mono (fun _ hq => by cases hq))); (case hl => rfl); (case hi => (first | exact fun _ => rfl | (intro h; first | rfl | exact h | (simp [h]; done) | (simp_all; done)))))
        | ((first | apply KO.val (g := true) rfl rfl rfl | apply KD.val (g := true) rfl rfl rfl | apply KDE.val (g := true) rfl rfl rfl | apply KDE.val rfl rfl rfl | apply KDH.val0 (g := true) rfl rfl rfl | apply KDH.val1 (g := true) rfl rfl rfl | apply KO.val rfl rfl rfl | apply KD.val rfl rfl rfl | apply KDH.val0 rfl rfl rfl | apply KO.valIn rfl rfl rfl | apply KD.valIn rfl rfl rfl); (apply qt_load1_cel rfl rfl ?hi rfl rfl ?hc); (case hc => first | exact fun _ => ((celP h1 hx).1.mono (fun _ hq => by cases hq)) | exact fun _ => ((celP h1 hx).2.mono (fun _ hq => by cases hq)) | exact fun hg => ((celP h1 hx).1.mono (fun _ hq => by cases hq)) | exact fun hg => ((celP h1 hx).2.mono (fun _ hq => by cases hq))); (case hi => (first | exact fun _ => rfl | (intro h; first | rfl | exact h | (simp [h]; done) | (simp_all; done)))))
        | fail)
      refine KO.callF [(br, cl [.slice pr R.length cr] 55), (b0, cl (by8 ys) 5)] ((bw, cl [u2] 26) :: φw2 ++ φo) (by classical exact List.perm_iff_count.2 (fun _ => by first | (simp only [List.count_append, List.count_cons, List.count_nil, List.append_assoc, List.cons_append, List.nil_append]; done) | (simp only [List.count_append, List.count_cons, List.count_nil, List.append_assoc, List.cons_append, List.nil_append]; omega))) rfl rfl rfl rfl rfl rfl rfl (Take_q _ _ [(b0, cl (by8 ys) 5)] br _ cr R pr sz rfl hRB hRc (fun q hq => hq) hSr hpr (by omega)) ?_
      rintro _ _ ⟨p', m', c', rfl, rfl, hR', hc', hS', hp'⟩
      have hlB := putB_len (X := X) (size := sz)
      cases hw : wMay sz with
      | false =>
        have hw2 := hw
        simp only [wMay, Bool.and_eq_false_iff, decide_eq_false_iff_not] at hw2
        have e1 : putE X sz = 1 := by simp [putE, hw]
        have e2 : tkE R sz = 1 := by simp [tkE, hw]
        have e3 : tkX R sz = 0 := by simp [tkX, e2]
        have e4 : putB X sz = [] := by simp [putB, e1]
        have e5 : tkR R sz = R := by simp [tkR, e2]
        rw [e1, e2, e3]
        rw [e4, List.append_nil] at hu2
        rw [e5] at hR' hS'
        subst hR'
        repeat' (first
          | refine KW.seq ?_
          | refine KW.region ?_
          | refine KO.nil ?_
          | refine At.then_normal ?_
          | refine KW.skip ?_
          | refine KW.ret ?_
          | refine At.then_ret ?_
          | refine KW.block ?_
          | refine KW.exit ?_
          | refine At.block_normal ?_
          | refine At.block_ret ?_
          | refine At.loop_ret ?_
          | refine At.then_exit ?_
          | refine At.block_here rfl ?_
          | refine At.block_there rfl ?_
          | refine At.loop_exit ?_
          | refine At.cut_ret ?_
          | refine At.cutA_ret ?_
          | refine At.cutA_exit ?_
          | refine At.cut_exit ?_
          | (refine At.cut_same ?_; repeat' (first | exact FLe.nil _ | refine FLe.cons rfl rfl ?_))
          | refine KW.cond_t rfl (by first | with_reducible rfl | decide) ?_
          | refine KW.cond_f rfl (by first | with_reducible rfl | decide) ?_
          | refine KW.draw (id := 12) 10 (by decide +kernel) ?_
          | refine KW.drawE (id := 17) 10 5 (by decide +kernel) rfl ?_
          | refine KDH.mid2 ?_
          | refine KDH.mid3 ?_
          | refine KDH.done ?_
          | refine KDM.head0 ?_
          | refine KDM.head1 ?_
          | refine KDM.fin ?_
          | refine KDH.skip0' rfl (by first | with_reducible rfl | decide) rfl rfl ?_
          | refine KDH.skip1' rfl (by first | with_reducible rfl | decide) rfl rfl ?_
          | refine KDE.skip rfl rfl rfl ?_
          | ((first | refine KDM.eo2f rfl rfl rfl (eo_alloc rfl rfl rfl) ?_ | refine KDM.eo2t rfl rfl rfl (eo_alloc rfl rfl rfl) ?_); rintro _ _ ⟨_, _, rfl, rfl⟩; refine ⟨?sub, ?_⟩; (case sub => (intro _ hp; first | exact hp | (cases hp; done) | (repeat (first | exact hp | apply List.mem_cons_of_mem | apply List.mem_append_right)) | (simp_all; done))))
          | ((first | refine KDM.eo2f rfl rfl rfl (eo_box rfl rfl rfl) ?_ | refine KDM.eo2t rfl rfl rfl (eo_box rfl rfl rfl) ?_); rintro _ _ ⟨_, _, rfl, rfl⟩; refine ⟨?sub, ?_⟩; (case sub => (intro _ hp; first | exact hp | (cases hp; done) | (repeat (first | exact hp | apply List.mem_cons_of_mem | apply List.mem_append_right)) | (simp_all; done))))
          | ((first | refine KDM.eo2f rfl rfl rfl (eo_buildSlice rfl rfl rfl rfl rfl rfl rfl rfl rfl rfl rfl) ?_ | refine KDM.eo2t rfl rfl rfl (eo_buildSlice rfl rfl rfl rfl rfl rfl rfl rfl rfl rfl rfl) ?_); rintro _ _ ⟨_, _, rfl, rfl⟩; refine ⟨?sub, ?_⟩; (case sub => (intro _ hp; first | exact hp | (cases hp; done) | (repeat (first | exact hp | apply List.mem_cons_of_mem | apply List.mem_append_right)) | (simp_all; done))))
          | ((first | refine KDM.eo30 rfl rfl (eo_store (i := 0) rfl rfl rfl rfl rfl rfl rfl rfl rfl rfl rfl) ?_ | refine KDM.eo30 rfl rfl (eo_store (i := 1) rfl rfl rfl rfl rfl rfl rfl rfl rfl rfl rfl) ?_ | refine KDM.eo30 rfl rfl (eo_store (i := 2) rfl rfl rfl rfl rfl rfl rfl rfl rfl rfl rfl) ?_ | refine KDM.eo30 rfl rfl (eo_store (i := 3) rfl rfl rfl rfl rfl rfl rfl rfl rfl rfl rfl) ?_ | refine KDM.eo30 rfl rfl (eo_store (i := 4) rfl rfl rfl rfl rfl rfl rfl rfl rfl rfl rfl) ?_ | refine KDM.eo30 rfl rfl (eo_store (i := 5) rfl rfl rfl rfl rfl rfl rfl rfl rfl rfl rfl) ?_ | refine KDM.eo30 rfl rfl (eo_store (i := 6) rfl rfl rfl rfl rfl rfl rfl rfl rfl rfl rfl) ?_ | refine KDM.eo30 rfl rfl (eo_store (i := 7) rfl rfl rfl rfl rfl rfl rfl rfl rfl rfl rfl) ?_); rintro _ _ rfl; refine ⟨?sub, ?_⟩; (case sub => (intro _ hp; first | exact hp | (cases hp; done) | (repeat (first | exact hp | apply List.mem_cons_of_mem | apply List.mem_append_right)) | (simp_all; done))))
          | refine KW.draw 0 (by decide +kernel) ?_
          | refine KW.drawU rfl (by decide +kernel) ?_
          | refine KD.zero ?_
          | refine KD.skip' rfl (by first | with_reducible rfl | decide) rfl rfl ?_
          | refine KO.skip' rfl (by first | with_reducible rfl | decide) rfl rfl ?_
          | refine KO.skip0' rfl (by first | with_reducible rfl | decide) rfl ?_
          | ((first | apply KO.val rfl rfl rfl ?kq ?_ | apply KO.valIn rfl rfl rfl ?kq ?_ | apply KD.val rfl rfl rfl ?kq ?_ | apply KD.valIn rfl rfl rfl ?kq ?_ | apply KDH.val0 rfl rfl rfl ?kq ?_ | apply KDH.val1 rfl rfl rfl ?kq ?_ | apply KDH.valIn0 rfl rfl rfl ?kq ?_ | apply KDH.valIn1 rfl rfl rfl ?kq ?_ | apply KDE.val rfl rfl rfl ?kq ?_ | apply KDE.valIn rfl rfl rfl ?kq ?_ | apply KDM.q2f rfl rfl rfl ?kq ?ksub ?_ | apply KDM.q2t rfl rfl rfl ?kq ?ksub ?_); (try (case ksub => (intro _ hp; first | exact hp | (cases hp; done) | (repeat (first | exact hp | apply List.mem_cons_of_mem | apply List.mem_append_right)) | (simp_all; done)))); (case kq => ((first | ((first | apply qt_add rfl rfl rfl ?hi ?om | apply qt_sub rfl rfl rfl ?hi ?om | apply qt_mul rfl rfl rfl ?hi ?om | apply qt_remN rfl rfl rfl ?hi ?om | apply qt_quoN rfl rfl rfl ?hi ?om | apply qt_addU rfl rfl rfl ?hi ?om | apply qt_subU rfl rfl rfl ?hi ?om | apply qt_mulU rfl rfl rfl ?hi ?om | apply qt_quoU rfl rfl rfl ?hi ?om | apply qt_convI rfl rfl rfl rfl ?hi ?om | apply qt_convU rfl rfl rfl rfl ?hi ?om | apply qt_indexAddr_arr rfl rfl rfl ?hi rfl rfl ?om | apply qt_indexAddr_slice rfl rfl rfl ?hi rfl rfl ?om | apply qt_sliceL rfl rfl rfl ?hi rfl rfl ?om | apply qt_sliceH rfl rfl rfl ?hi rfl rfl ?om | apply qt_sliceLH rfl rfl rfl rfl ?hi rfl rfl ?om | apply qt_sliceLHM rfl rfl rfl rfl rfl ?hi rfl rfl ?om | apply qt_sliceHM rfl rfl rfl rfl ?hi rfl rfl ?om); (case om => (intro hg; first | omega | (simp only [Bool.or_eq_false_iff, Bool.or_eq_true, Bool.and_eq_true, Bool.and_eq_false_iff, Bool.not_eq_true', Bool.not_eq_false', Bool.not_eq_true, Bool.not_eq_false, decide_eq_true_eq, decide_eq_false_iff_not, Bool.not_not, beq_iff_eq, bne_iff_ne, Bool.beq_eq_decide_eq] at hg; omega)))) | apply qt_ev rfl ?hi | ((first | apply qt_load1 rfl rfl ?hi rfl rfl ?hm ?hc | apply qt_loadN rfl rfl ?hi rfl rfl rfl ?hm ?hc); (case hm => repeat (first | exact List.Mem.head _ | apply List.Mem.tail _ | apply List.mem_append_right _)); (case hc => rfl)) | apply qt_pick_t rfl rfl (by first | with_reducible rfl | decide) rfl ?hi | apply qt_pick_f rfl rfl (by first | with_reducible rfl | decide) rfl ?hi | ((first | apply qt_pick_and rfl rfl rfl ?hi ?pj | apply qt_pick_or rfl rfl rfl ?hi ?pj); (case pj => (intro h h2; first | with_reducible exact h2 | with_reducible rfl | (simp [h2]; done) | (simp_all; done)))) | apply qt_build rfl rfl ?hi rfl | apply qt_eqs rfl rfl rfl ?hi rfl (Or.inl rfl) | apply qt_nes rfl rfl rfl ?hi rfl (Or.inl rfl) | ((first | apply qt_rem rfl rfl rfl ?hi ?om | apply qt_quo rfl rfl rfl ?hi ?om | apply qt_shr rfl rfl rfl ?hi ?om | apply qt_shl rfl rfl rfl ?hi ?om); (case om => (intro hg; first | omega | (simp only [Bool.or_eq_false_iff, Bool.or_eq_true, Bool.and_eq_true, Bool.and_eq_false_iff, Bool.not_eq_true', Bool.not_eq_false', Bool.not_eq_true, Bool.not_eq_false, decide_eq_true_eq, decide_eq_false_iff_not, Bool.not_not, beq_iff_eq, bne_iff_ne, Bool.beq_eq_decide_eq] at hg; omega))))); (case hi => (intro h; (repeat' (first | with_reducible exact alln | with_reducible refine allc ?_ ?_ | with_reducible refine andi ?_ ?_)); all_goals (first | with_reducible rfl | with_reducible exact h | with_reducible exact andl h | with_reducible exact andr h | with_reducible exact andl (andl h) | (simp only [h, Bool.and_self]; done) | (simp [h]; done) | (simp_all; done)))))))
          | (refine KO.box rfl rfl rfl rfl rfl rfl ?_; intro _ _)
          | (refine KO.alloc rfl rfl rfl rfl rfl rfl ?_; intro _ _)
          | (refine KO.buildSlice rfl rfl rfl rfl rfl rfl rfl rfl rfl rfl rfl rfl rfl rfl ?_; intro _ _)
          | ((first | apply KO.store (i := 0) rfl rfl rfl rfl rfl rfl rfl rfl ?hl rfl ?hw ?ho ?hs | apply KO.store (i := 1) rfl rfl rfl rfl rfl rfl rfl rfl ?hl rfl ?hw ?ho ?hs | apply KO.store (i := 2) rfl rfl rfl rfl rfl rfl rfl rfl ?hl rfl ?hw ?ho ?hs | apply KO.store (i := 3) rfl rfl rfl rfl rfl rfl rfl rfl ?hl rfl ?hw ?ho ?hs | apply KO.store (i := 4) rfl rfl rfl rfl rfl rfl rfl rfl ?hl rfl ?hw ?ho ?hs | apply KO.store (i := 5) rfl rfl rfl rfl rfl rfl rfl rfl ?hl rfl ?hw ?ho ?hs | apply KO.store (i := 6) rfl rfl rfl rfl rfl rfl rfl rfl ?hl rfl ?hw ?ho ?hs | apply KO.store (i := 7) rfl rfl rfl rfl rfl rfl rfl rfl ?hl rfl ?hw ?ho ?hs); (case hl => rfl); (case hw => rfl); (case ho => rfl); (case hs => rfl))
          | (refine KW.cond rfl ?_ ?_ <;> (intro hc; try simp only [Bool.or_eq_false_iff, Bool.or_eq_true, Bool.and_eq_true, Bool.and_eq_false_iff, Bool.not_eq_true', Bool.not_eq_false', Bool.not_eq_true, Bool.not_eq_false, decide_eq_true_eq, decide_eq_false_iff_not, Bool.not_not, beq_iff_eq, bne_iff_ne, Bool.beq_eq_decide_eq] at hc))
          | exact absurd trivial ‹¬True›
          | ((have hjn : (0 : Int) ≤ i ∧ (i : Int) < m := by omega); (obtain ⟨bl, ol, rfl, h1⟩ := hp.2 (by omega)); (obtain ⟨⟨X, sz⟩, hx⟩ : ∃ z, ls[i]? = some z := ⟨_, List.getElem?_eq_getElem (by omega)⟩); (obtain ⟨hX, hs1⟩ := hls _ (List.mem_of_getElem? hx)); clear hp)
          | ((first | apply KO.val (g := true) rfl rfl rfl | apply KD.val (g := true) rfl rfl rfl | apply KDE.val (g := true) rfl rfl rfl | apply KDE.val rfl rfl rfl | apply KDH.val0 (g := true) rfl rfl rfl | apply KDH.val1 (g := true) rfl rfl rfl | apply KO.val rfl rfl rfl | apply KD.val rfl rfl rfl | apply KDH.val0 rfl rfl rfl | apply KO.valIn rfl rfl rfl | apply KD.valIn rfl rfl rfl); (apply qt_loadN_cel rfl rfl ?hi rfl rfl rfl ?hl ?hc); (case hc => first | exact fun _ => ((celP h1 hx).1.mono (fun _ hq => by cases hq)) | exact fun _ => ((celP h1 hx).2.mono (fun _ hq => by cases hq)) | exact fun hg => ((celP h1 hx).1.mono (fun _ hq => by cases hq)) | exact fun hg => ((celP h1 hx).2.mono (fun _ hq => by cases hq))); (case hl => rfl); (case hi => (first | exact fun _ => rfl | (intro h; first | rfl | exact h | (simp [h]; done) | (simp_all; done)))))
          | ((first | apply KO.val (g := true) rfl rfl rfl | apply KD.val (g := true) rfl rfl rfl | apply KDE.val (g := true) rfl rfl rfl | apply KDE.val rfl rfl rfl | apply KDH.val0 (g := true) rfl rfl rfl | apply KDH.val1 (g := true) rfl rfl rfl | apply KO.val rfl rfl rfl | apply KD.val rfl rfl rfl | apply KDH.val0 rfl rfl rfl | apply KO.valIn rfl rfl rfl | apply KD.valIn rfl rfl rfl); (apply qt_load1_cel rfl rfl ?hi rfl rfl ?hc); (case hc => first | exact fun _ => ((celP h1 hx).1.mono (fun _ hq => by cases hq)) | exact fun _ => ((celP h1 hx).2.mono (fun _ hq => by cases hq)) | exact fun hg => ((celP h1 hx).1.mono (fun _ hq => by cases hq)) | exact fun hg => ((celP h1 hx).2.mono (fun _ hq => by cases hq))); (case hi => (first | exact fun _ => rfl | (intro h; first | rfl | exact h | (simp [h]; done) | (simp_all; done)))))
          | (exfalso; omega)
          | fail)
        refine At.loop_on ⟨i + 1, P, u2, φw2, o, φo, R, p', c', pl, cl'⟩ ⟨by dsimp only; omega, by dsimp only; omega, hPB, hu2, ho, hRB, hR3, hc', hRl, hS', hp', hSl⟩ (by dsimp only; omega) ?_
        exact Le.perm (FLe.cons rfl (by dsimp only; rw [Int.natCast_add]; rfl) (FLe.cons rfl rfl (FLe.cons rfl rfl (FLe.cons rfl rfl (FLe.cons rfl rfl (FLe.cons rfl rfl (FLe.nil _))))))) (by classical exact List.perm_iff_count.2 (fun _ => by first | (simp only [List.count_append, List.count_cons, List.count_nil, List.append_assoc, List.cons_append, List.nil_append]; done) | (simp only [List.count_append, List.count_cons, List.count_nil, List.append_assoc, List.cons_append, List.nil_append]; omega)))
      | true =>
        have hw2 := hw
        simp only [wMay, Bool.and_eq_true, decide_eq_true_eq] at hw2
        obtain ⟨z, rfl⟩ := Int.eq_ofNat_of_zero_le (show 0 ≤ sz by omega)
        have tk : (tkE R z = 17 ∧ R.length < z ∧ tkX R z = 0 ∧ tkR R z = R) ∨ (tkE R z = 0 ∧ z ≤ R.length ∧ tkX R z = num (R.take z) ∧ tkR R z = R.drop z) := by
          by_cases h : (R.length : Int) < z
          · have e : tkE R z = 17 := by simp [tkE, hw, h]
            exact .inl ⟨e, by omega, by simp [tkX, e], by simp [tkR, e]⟩
          · have e : tkE R z = 0 := by simp [tkE, hw, h]
            exact .inr ⟨e, by omega, by simp [tkX, e], by simp [tkR, e]⟩
        have hv4 : z ≤ R.length → SL E.β [] 1 z (by8 (R.take z)) (adv 1 pl cl' 0) := fun h4 => by
          have := hSl.adv (l := 0) (h := z) (c := cl') (by omega) (by omega) (by omega)
          rw [by8_take]
          simpa using this
        have hst := tkR_byt hRB z
        have htl := tkR_le R z
        subst hR'
        have hQB : (P ++ putB X z).length ≤ 8 * (i + 1) := by rw [List.length_append]; omega
        rw [← List.length_append] at hu2
        repeat' (first
          | refine KW.seq ?_
          | refine KW.region ?_
          | refine KO.nil ?_
          | refine At.then_normal ?_
          | refine KW.skip ?_
          | refine KW.ret ?_
          | refine At.then_ret ?_
          | refine KW.block ?_
          | refine KW.exit ?_
          | refine At.block_normal ?_
          | refine At.block_ret ?_
          | refine At.loop_ret ?_
          | refine At.then_exit ?_
          | refine At.block_here rfl ?_
          | refine At.block_there rfl ?_
          | refine At.loop_exit ?_
          | refine At.cut_ret ?_
          | refine At.cutA_ret ?_
          | refine At.cutA_exit ?_
          | refine At.cut_exit ?_
          | (refine At.cut_same ?_; repeat' (first | exact FLe.nil _ | refine FLe.cons rfl rfl ?_))
          | refine KW.cond_t rfl (by first | with_reducible rfl | decide) ?_
          | refine KW.cond_f rfl (by first | with_reducible rfl | decide) ?_
          | refine KW.draw (id := 12) 10 (by decide +kernel) ?_
          | refine KW.drawE (id := 17) 10 5 (by decide +kernel) rfl ?_
          | refine KDH.mid2 ?_
          | refine KDH.mid3 ?_
          | refine KDH.done ?_
          | refine KDM.head0 ?_
          | refine KDM.head1 ?_
          | refine KDM.fin ?_
          | refine KDH.skip0' rfl (by first | with_reducible rfl | decide) rfl rfl ?_
          | refine KDH.skip1' rfl (by first | with_reducible rfl | decide) rfl rfl ?_
          | refine KDE.skip rfl rfl rfl ?_
          | ((first | refine KDM.eo2f rfl rfl rfl (eo_alloc rfl rfl rfl) ?_ | refine KDM.eo2t rfl rfl rfl (eo_alloc rfl rfl rfl) ?_); rintro _ _ ⟨_, _, rfl, rfl⟩; refine ⟨?sub, ?_⟩; (case sub => (intro _ hp; first | exact hp | (cases hp; done) | (repeat (first | exact hp | apply List.mem_cons_of_mem | apply List.mem_append_right)) | (simp_all; done))))
          | ((first | refine KDM.eo2f rfl rfl rfl (eo_box rfl rfl rfl) ?_ | refine KDM.eo2t rfl rfl rfl (eo_box rfl rfl rfl) ?_); rintro _ _ ⟨_, _, rfl, rfl⟩; refine ⟨?sub, ?_⟩; (case sub => (intro _ hp; first | exact hp | (cases hp; done) | (repeat (first | exact hp | apply List.mem_cons_of_mem | apply List.mem_append_right)) | (simp_all; done))))
          | ((first | refine KDM.eo2f rfl rfl rfl (eo_buildSlice rfl rfl rfl rfl rfl rfl rfl rfl rfl rfl rfl) ?_ | refine KDM.eo2t rfl rfl rfl (eo_buildSlice rfl rfl rfl rfl rfl rfl rfl rfl rfl rfl rfl) ?_); rintro _ _ ⟨_, _, rfl, rfl⟩; refine ⟨?sub, ?_⟩; (case sub => (intro _ hp; first | exact hp | (cases hp; done) | (repeat (first | exact hp | apply List.mem_cons_of_mem | apply List.mem_append_right)) | (simp_all; done))))
          | ((first | refine KDM.eo30 rfl rfl (eo_store (i := 0) rfl rfl rfl rfl rfl rfl rfl rfl rfl rfl rfl) ?_ | refine KDM.eo30 rfl rfl (eo_store (i := 1) rfl rfl rfl rfl rfl rfl rfl rfl rfl rfl rfl) ?_ | refine KDM.eo30 rfl rfl (eo_store (i := 2) rfl rfl rfl rfl rfl rfl rfl rfl rfl rfl rfl) ?_ | refine KDM.eo30 rfl rfl (eo_store (i := 3) rfl rfl rfl rfl rfl rfl rfl rfl rfl rfl rfl) ?_ | refine KDM.eo30 rfl rfl (eo_store (i := 4) rfl rfl rfl rfl rfl rfl rfl rfl rfl rfl rfl) ?_ | refine KDM.eo30 rfl rfl (eo_store (i := 5) rfl rfl rfl rfl rfl rfl rfl rfl rfl rfl rfl) ?_ | refine KDM.eo30 rfl rfl (eo_store (i := 6) rfl rfl rfl rfl rfl rfl rfl rfl rfl rfl rfl) ?_ | refine KDM.eo30 rfl rfl (eo_store (i := 7) rfl rfl rfl rfl rfl rfl rfl rfl rfl rfl rfl) ?_); rintro _ _ rfl; refine ⟨?sub, ?_⟩; (case sub => (intro _ hp; first | exact hp | (cases hp; done) | (repeat (first | exact hp | apply List.mem_cons_of_mem | apply List.mem_append_right)) | (simp_all; done))))
          | refine KW.draw 0 (by decide +kernel) ?_
          | refine KW.drawU rfl (by decide +kernel) ?_
          | refine KD.zero ?_
          | refine KD.skip' rfl (by first | with_reducible rfl | decide) rfl rfl ?_
          | refine KO.skip' rfl (by first | with_reducible rfl | decide) rfl rfl ?_
          | refine KO.skip0' rfl (by first | with_reducible rfl | decide) rfl ?_
          | ((first | apply KO.val rfl rfl rfl ?kq ?_ | apply KO.valIn rfl rfl rfl ?kq ?_ | apply KD.val rfl rfl rfl ?kq ?_ | apply KD.valIn rfl rfl rfl ?kq ?_ | apply KDH.val0 rfl rfl rfl ?kq ?_ | apply KDH.val1 rfl rfl rfl ?kq ?_ | apply KDH.valIn0 rfl rfl rfl ?kq ?_ | apply KDH.valIn1 rfl rfl rfl ?kq ?_ | apply KDE.val rfl rfl rfl ?kq ?_ | apply KDE.valIn rfl rfl rfl ?kq ?_ | apply KDM.q2f rfl rfl rfl ?kq ?ksub ?_ | apply KDM.q2t rfl rfl rfl ?kq ?ksub ?_); (try (case ksub => (intro _ hp; first | exact hp | (cases hp; done) | (repeat (first | exact hp | apply List.mem_cons_of_mem | apply List.mem_append_right)) | (simp_all; done)))); (case kq => ((first | ((first | apply qt_add rfl rfl rfl ?hi ?om | apply qt_sub rfl rfl rfl ?hi ?om | apply qt_mul rfl rfl rfl ?hi ?om | apply qt_remN rfl rfl rfl ?hi ?om | apply qt_quoN rfl rfl rfl ?hi ?om | apply qt_addU rfl rfl rfl ?hi ?om | apply qt_subU rfl rfl rfl ?hi ?om | apply qt_mulU rfl rfl rfl ?hi ?om | apply qt_quoU rfl rfl rfl ?hi ?om | apply qt_convI rfl rfl rfl rfl ?hi ?om | apply qt_convU rfl rfl rfl rfl ?hi ?om | apply qt_indexAddr_arr rfl rfl rfl ?hi rfl rfl ?om | apply qt_indexAddr_slice rfl rfl rfl ?hi rfl rfl ?om | apply qt_sliceL rfl rfl rfl ?hi rfl rfl ?om | apply qt_sliceH rfl rfl rfl ?hi rfl rfl ?om | apply qt_sliceLH rfl rfl rfl rfl ?hi rfl rfl ?om | apply qt_sliceLHM rfl rfl rfl rfl rfl ?hi rfl rfl ?om | apply qt_sliceHM rfl rfl rfl rfl ?hi rfl rfl ?om); (case om => (intro hg; first | omega | (simp only [Bool.or_eq_false_iff, Bool.or_eq_true, Bool.and_eq_true, Bool.and_eq_false_iff, Bool.not_eq_true', Bool.not_eq_false', Bool.not_eq_true, Bool.not_eq_false, decide_eq_true_eq, decide_eq_false_iff_not, Bool.not_not, beq_iff_eq, bne_iff_ne, Bool.beq_eq_decide_eq] at hg; omega)))) | apply qt_ev rfl ?hi | ((first | apply qt_load1 rfl rfl ?hi rfl rfl ?hm ?hc | apply qt_loadN rfl rfl ?hi rfl rfl rfl ?hm ?hc); (case hm => repeat (first | exact List.Mem.head _ | apply List.Mem.tail _ | apply List.mem_append_right _)); (case hc => rfl)) | apply qt_pick_t rfl rfl (by first | with_reducible rfl | decide) rfl ?hi | apply qt_pick_f rfl rfl (by first | with_reducible rfl | decide) rfl ?hi | ((first | apply qt_pick_and rfl rfl rfl ?hi ?pj | apply qt_pick_or rfl rfl rfl ?hi ?pj); (case pj => (intro h h2; first | with_reducible exact h2 | with_reducible rfl | (simp [h2]; done) | (simp_all; done)))) | apply qt_build rfl rfl ?hi rfl | apply qt_eqs rfl rfl rfl ?hi rfl (Or.inl rfl) | apply qt_nes rfl rfl rfl ?hi rfl (Or.inl rfl) | ((first | apply qt_rem rfl rfl rfl ?hi ?om | apply qt_quo rfl rfl rfl ?hi ?om | apply qt_shr rfl rfl rfl ?hi ?om | apply qt_shl rfl rfl rfl ?hi ?om); (case om => (intro hg; first | omega | (simp only [Bool.or_eq_false_iff, Bool.or_eq_true, Bool.and_eq_true, Bool.and_eq_false_iff, Bool.not_eq_true', Bool.not_eq_false', Bool.not_eq_true, Bool.not_eq_false, decide_eq_true_eq, decide_eq_false_iff_not, Bool.not_not, beq_iff_eq, bne_iff_ne, Bool.beq_eq_decide_eq] at hg; omega))))); (case hi => (intro h; (repeat' (first | with_reducible exact alln | with_reducible refine allc ?_ ?_ | with_reducible refine andi ?_ ?_)); all_goals (first | with_reducible rfl | with_reducible exact h | with_reducible exact andl h | with_reducible exact andr h | with_reducible exact andl (andl h) | (simp only [h, Bool.and_self]; done) | (simp [h]; done) | (simp_all; done)))))))
          | (refine KO.box rfl rfl rfl rfl rfl rfl ?_; intro _ _)
          | (refine KO.alloc rfl rfl rfl rfl rfl rfl ?_; intro _ _)
          | (refine KO.buildSlice rfl rfl rfl rfl rfl rfl rfl rfl rfl rfl rfl rfl rfl rfl ?_; intro _ _)
          | ((first | apply KO.store (i := 0) rfl rfl rfl rfl rfl rfl rfl rfl ?hl rfl ?hw ?ho ?hs | apply KO.store (i := 1) rfl rfl rfl rfl rfl rfl rfl rfl ?hl rfl ?hw ?ho ?hs | apply KO.store (i := 2) rfl rfl rfl rfl rfl rfl rfl rfl ?hl rfl ?hw ?ho ?hs | apply KO.store (i := 3) rfl rfl rfl rfl rfl rfl rfl rfl ?hl rfl ?hw ?ho ?hs | apply KO.store (i := 4) rfl rfl rfl rfl rfl rfl rfl rfl ?hl rfl ?hw ?ho ?hs | apply KO.store (i := 5) rfl rfl rfl rfl rfl rfl rfl rfl ?hl rfl ?hw ?ho ?hs | apply KO.store (i := 6) rfl rfl rfl rfl rfl rfl rfl rfl ?hl rfl ?hw ?ho ?hs | apply KO.store (i := 7) rfl rfl rfl rfl rfl rfl rfl rfl ?hl rfl ?hw ?ho ?hs); (case hl => rfl); (case hw => rfl); (case ho => rfl); (case hs => rfl))
          | (refine KW.cond rfl ?_ ?_ <;> (intro hc; try simp only [Bool.or_eq_false_iff, Bool.or_eq_true, Bool.and_eq_true, Bool.and_eq_false_iff, Bool.not_eq_true', Bool.not_eq_false', Bool.not_eq_true, Bool.not_eq_false, decide_eq_true_eq, decide_eq_false_iff_not, Bool.not_not, beq_iff_eq, bne_iff_ne, Bool.beq_eq_decide_eq] at hc))
          | exact absurd trivial ‹¬True›
          | ((have hjn : (0 : Int) ≤ i ∧ (i : Int) < m := by omega); (obtain ⟨bl, ol, rfl, h1⟩ := hp.2 (by omega)); (obtain ⟨⟨X, sz⟩, hx⟩ : ∃ z, ls[i]? = some z := ⟨_, List.getElem?_eq_getElem (by omega)⟩); (obtain ⟨hX, hs1⟩ := hls _ (List.mem_of_getElem? hx)); clear hp)
          | ((first | apply KO.val (g := true) rfl rfl rfl | apply KD.val (g := true) rfl rfl rfl | apply KDE.val (g := true) rfl rfl rfl | apply KDE.val rfl rfl rfl | apply KDH.val0 (g := true) rfl rfl rfl | apply KDH.val1 (g := true) rfl rfl rfl | apply KO.val rfl rfl rfl | apply KD.val rfl rfl rfl | apply KDH.val0 rfl rfl rfl | apply KO.valIn rfl rfl rfl | apply KD.valIn rfl rfl rfl); (apply qt_loadN_cel rfl rfl ?hi rfl rfl rfl ?hl ?hc); (case hc => first | exact fun _ => ((celP h1 hx).1.mono (fun _ hq => by cases hq)) | exact fun _ => ((celP h1 hx).2.mono (fun _ hq => by cases hq)) | exact fun hg => ((celP h1 hx).1.mono (fun _ hq => by cases hq)) | exact fun hg => ((celP h1 hx).2.mono (fun _ hq => by cases hq))); (case hl => rfl); (case hi => (first | exact fun _ => rfl | (intro h; first | rfl | exact h | (simp [h]; done) | (simp_all; done)))))
          | ((first | apply KO.val (g := true) rfl rfl rfl | apply KD.val (g := true) rfl rfl rfl | apply KDE.val (g := true) rfl rfl rfl | apply KDE.val rfl rfl rfl | apply KDH.val0 (g := true) rfl rfl rfl | apply KDH.val1 (g := true) rfl rfl rfl | apply KO.val rfl rfl rfl | apply KD.val rfl rfl rfl | apply KDH.val0 rfl rfl rfl | apply KO.valIn rfl rfl rfl | apply KD.valIn rfl rfl rfl); (apply qt_load1_cel rfl rfl ?hi rfl rfl ?hc); (case hc => first | exact fun _ => ((celP h1 hx).1.mono (fun _ hq => by cases hq)) | exact fun _ => ((celP h1 hx).2.mono (fun _ hq => by cases hq)) | exact fun hg => ((celP h1 hx).1.mono (fun _ hq => by cases hq)) | exact fun hg => ((celP h1 hx).2.mono (fun _ hq => by cases hq))); (case hi => (first | exact fun _ => rfl | (intro h; first | rfl | exact h | (simp [h]; done) | (simp_all; done)))))
          | (exfalso; omega)
          | (exfalso; omega)
          | fail)
        refine KDE.eo rfl rfl rfl (eo_callE rfl rfl rfl rfl rfl (rBytes_p X z hX (by omega) _)) ?_
        rintro _ _ ⟨_, ⟨b1, rfl, rfl⟩, rfl⟩
        rw [show decide (X / 2 ^ (8 * z) = 0) = decide (putE X z = 0) from put_is hX hw]
        repeat' (first
          | refine KW.seq ?_
          | refine KW.region ?_
          | refine KO.nil ?_
          | refine At.then_normal ?_
          | refine KW.skip ?_
          | refine KW.ret ?_
          | refine At.then_ret ?_
          | refine KW.block ?_
          | refine KW.exit ?_
          | refine At.block_normal ?_
          | refine At.block_ret ?_
          | refine At.loop_ret ?_
          | refine At.then_exit ?_
          | refine At.block_here rfl ?_
          | refine At.block_there rfl ?_
          | refine At.loop_exit ?_
          | refine At.cut_ret ?_
          | refine At.cutA_ret ?_
          | refine At.cutA_exit ?_
          | refine At.cut_exit ?_
          | (refine At.cut_same ?_; repeat' (first | exact FLe.nil _ | refine FLe.cons rfl rfl ?_))
          | refine KW.cond_t rfl (by first | with_reducible rfl | decide) ?_
          | refine KW.cond_f rfl (by first | with_reducible rfl | decide) ?_
          | refine KW.draw (id := 12) 10 (by decide +kernel) ?_
          | refine KW.drawE (id := 17) 10 5 (by decide +kernel) rfl ?_
          | refine KDH.mid2 ?_
          | refine KDH.mid3 ?_
          | refine KDH.done ?_
          | refine KDM.head0 ?_
          | refine KDM.head1 ?_
          | refine KDM.fin ?_
          | refine KDH.skip0' rfl (by first | with_reducible rfl | decide) rfl rfl ?_
          | refine KDH.skip1' rfl (by first | with_reducible rfl | decide) rfl rfl ?_
          | refine KDE.skip rfl rfl rfl ?_
          | ((first | refine KDM.eo2f rfl rfl rfl (eo_alloc rfl rfl rfl) ?_ | refine KDM.eo2t rfl rfl rfl (eo_alloc rfl rfl rfl) ?_); rintro _ _ ⟨_, _, rfl, rfl⟩; refine ⟨?sub, ?_⟩; (case sub => (intro _ hp; first | exact hp | (cases hp; done) | (repeat (first | exact hp | apply List.mem_cons_of_mem | apply List.mem_append_right)) | (simp_all; done))))
          | ((first | refine KDM.eo2f rfl rfl rfl (eo_box rfl rfl rfl) ?_ | refine KDM.eo2t rfl rfl rfl (eo_box rfl rfl rfl) ?_); rintro _ _ ⟨_, _, rfl, rfl⟩; refine ⟨?sub, ?_⟩; (case sub => (intro _ hp; first | exact hp | (cases hp; done) | (repeat (first | exact hp | apply List.mem_cons_of_mem | apply List.mem_append_right)) | (simp_all; done))))
          | ((first | refine KDM.eo2f rfl rfl rfl (eo_buildSlice rfl rfl rfl rfl rfl rfl rfl rfl rfl rfl rfl) ?_ | refine KDM.eo2t rfl rfl rfl (eo_buildSlice rfl rfl rfl rfl rfl rfl rfl rfl rfl rfl rfl) ?_); rintro _ _ ⟨_, _, rfl, rfl⟩; refine ⟨?sub, ?_⟩; (case sub => (intro _ hp; first | exact hp | (cases hp; done) | (repeat (first | exact hp | apply List.mem_cons_of_mem | apply List.mem_append_right)) | (simp_all; done))))
          | ((first | refine KDM.eo30 rfl rfl (eo_store (i := 0) rfl rfl rfl rfl rfl rfl rfl rfl rfl rfl rfl) ?_ | refine KDM.eo30 rfl rfl (eo_store (i := 1) rfl rfl rfl rfl rfl rfl rfl rfl rfl rfl rfl) ?_ | refine KDM.eo30 rfl rfl (eo_store (i := 2) rfl rfl rfl rfl rfl rfl rfl rfl rfl rfl rfl) ?_ | refine KDM.eo30 rfl rfl (eo_store (i := 3) rfl rfl rfl rfl rfl rfl rfl rfl rfl rfl rfl) ?_ | refine KDM.eo30 rfl rfl (eo_store (i := 4) rfl rfl rfl rfl rfl rfl rfl rfl rfl rfl rfl) ?_ | refine KDM.eo30 rfl rfl (eo_store (i := 5) rfl rfl rfl rfl rfl rfl rfl rfl rfl rfl rfl) ?_ | refine KDM.eo30 rfl rfl (eo_store (i := 6) rfl rfl rfl rfl rfl rfl rfl rfl rfl rfl rfl) ?_ | refine KDM.eo30 rfl rfl (eo_store (i := 7) rfl rfl rfl rfl rfl rfl rfl rfl rfl rfl rfl) ?_); rintro _ _ rfl; refine ⟨?sub, ?_⟩; (case sub => (intro _ hp; first | exact hp | (cases hp; done) | (repeat (first | exact hp | apply List.mem_cons_of_mem | apply List.mem_append_right)) | (simp_all; done))))
          | refine KW.draw 0 (by decide +kernel) ?_
          | refine KW.drawU rfl (by decide +kernel) ?_
          | refine KD.zero ?_
          | refine KD.skip' rfl (by first | with_reducible rfl | decide) rfl rfl ?_
          | refine KO.skip' rfl (by first | with_reducible rfl | decide) rfl rfl ?_
          | refine KO.skip0' rfl (by first | with_reducible rfl | decide) rfl ?_
          | ((first | apply KO.val rfl rfl rfl ?kq ?_ | apply KO.valIn rfl rfl rfl ?kq ?_ | apply KD.val rfl rfl rfl ?kq ?_ | apply KD.valIn rfl rfl rfl ?kq ?_ | apply KDH.val0 rfl rfl rfl ?kq ?_ | apply KDH.val1 rfl rfl rfl ?kq ?_ | apply KDH.valIn0 rfl rfl rfl ?kq ?_ | apply KDH.valIn1 rfl rfl rfl ?kq ?_ | apply KDE.val rfl rfl rfl ?kq ?_ | apply KDE.valIn rfl rfl rfl ?kq ?_ | apply KDM.q2f rfl rfl rfl ?kq ?ksub ?_ | apply KDM.q2t rfl rfl rfl ?kq ?ksub ?_); (try (case ksub => (intro _ hp; first | exact hp | (cases hp; done) | (repeat (first | exact hp | apply List.mem_cons_of_mem | apply List.mem_append_right)) | (simp_all; done)))); (case kq => ((first | ((first | apply qt_add rfl rfl rfl ?hi ?om | apply qt_sub rfl rfl rfl ?hi ?om | apply qt_mul rfl rfl rfl ?hi ?om | apply qt_remN rfl rfl rfl ?hi ?om | apply qt_quoN rfl rfl rfl ?hi ?om | apply qt_addU rfl rfl rfl ?hi ?om | apply qt_subU rfl rfl rfl ?hi ?om | apply qt_mulU rfl rfl rfl ?hi ?om | apply qt_quoU rfl rfl rfl ?hi ?om | apply qt_convI rfl rfl rfl rfl ?hi ?om | apply qt_convU rfl rfl rfl rfl ?hi ?om | apply qt_indexAddr_arr rfl rfl rfl ?hi rfl rfl ?om | apply qt_indexAddr_slice rfl rfl rfl ?hi rfl rfl ?om | apply qt_sliceL rfl rfl rfl ?hi rfl rfl ?om | apply qt_sliceH rfl rfl rfl ?hi rfl rfl ?om | apply qt_sliceLH rfl rfl rfl rfl ?hi rfl rfl ?om | apply qt_sliceLHM rfl rfl rfl rfl rfl ?hi rfl rfl ?om | apply qt_sliceHM rfl rfl rfl rfl ?hi rfl rfl ?om); (case om => (intro hg; first | omega | (simp only [Bool.or_eq_false_iff, Bool.or_eq_true, Bool.and_eq_true, Bool.and_eq_false_iff, Bool.not_eq_true', Bool.not_eq_false', Bool.not_eq_true, Bool.not_eq_false, decide_eq_true_eq, decide_eq_false_iff_not, Bool.not_not, beq_iff_eq, bne_iff_ne, Bool.beq_eq_decide_eq] at hg; omega)))) | apply qt_ev rfl ?hi | ((first | apply qt_load1 rfl rfl ?hi rfl rfl ?hm ?hc | apply qt_loadN rfl rfl ?hi rfl rfl rfl ?hm ?hc); (case hm => repeat (first | exact List.Mem.head _ | apply List.Mem.tail _ | apply List.mem_append_right _)); (case hc => rfl)) | apply qt_pick_t rfl rfl (by first | with_reducible rfl | decide) rfl ?hi | apply qt_pick_f rfl rfl (by first | with_reducible rfl | decide) rfl ?hi | ((first | apply qt_pick_and rfl rfl rfl ?hi ?pj | apply qt_pick_or rfl rfl rfl ?hi ?pj); (case pj => (intro h h2; first | with_reducible exact h2 | with_reducible rfl | (simp [h2]; done) | (simp_all; done)))) | apply qt_build rfl rfl ?hi rfl | apply qt_eqs rfl rfl rfl ?hi rfl (Or.inl rfl) | apply qt_nes rfl rfl rfl ?hi rfl (Or.inl rfl) | ((first | apply qt_rem rfl rfl rfl ?hi ?om | apply qt_quo rfl rfl rfl ?hi ?om | apply qt_shr rfl rfl rfl ?hi ?om | apply qt_shl rfl rfl rfl ?hi ?om); (case om => (intro hg; first | omega | (simp only [Bool.or_eq_false_iff, Bool.or_eq_true, Bool.and_eq_true, Bool.and_eq_false_iff, Bool.not_eq_true', Bool.not_eq_false', Bool.not_eq_true, Bool.not_eq_false, decide_eq_true_eq, decide_eq_false_iff_not, Bool.not_not, beq_iff_eq, bne_iff_ne, Bool.beq_eq_decide_eq] at hg; omega))))); (case hi => (intro h; (repeat' (first | with_reducible exact alln | with_reducible refine allc ?_ ?_ | with_reducible refine andi ?_ ?_)); all_goals (first | with_reducible rfl | with_reducible exact h | with_reducible exact andl h | with_reducible exact andr h | with_reducible exact andl (andl h) | (simp only [h, Bool.and_self]; done) | (simp [h]; done) | (simp_all; done)))))))
          | (refine KO.box rfl rfl rfl rfl rfl rfl ?_; intro _ _)
          | (refine KO.alloc rfl rfl rfl rfl rfl rfl ?_; intro _ _)
          | (refine KO.buildSlice rfl rfl rfl rfl rfl rfl rfl rfl rfl rfl rfl rfl rfl rfl ?_; intro _ _)
          | ((first | apply KO.store (i := 0) rfl rfl rfl rfl rfl rfl rfl rfl ?hl rfl ?hw ?ho ?hs | apply KO.store (i := 1) rfl rfl rfl rfl rfl rfl rfl rfl ?hl rfl ?hw ?ho ?hs | apply KO.store (i := 2) rfl rfl rfl rfl rfl rfl rfl rfl ?hl rfl ?hw ?ho ?hs | apply KO.store (i := 3) rfl rfl rfl rfl rfl rfl rfl rfl ?hl rfl ?hw ?ho ?hs | apply KO.store (i := 4) rfl rfl rfl rfl rfl rfl rfl rfl ?hl rfl ?hw ?ho ?hs | apply KO.store (i := 5) rfl rfl rfl rfl rfl rfl rfl rfl ?hl rfl ?hw ?ho ?hs | apply KO.store (i := 6) rfl rfl rfl rfl rfl rfl rfl rfl ?hl rfl ?hw ?ho ?hs | apply KO.store (i := 7) rfl rfl rfl rfl rfl rfl rfl rfl ?hl rfl ?hw ?ho ?hs); (case hl => rfl); (case hw => rfl); (case ho => rfl); (case hs => rfl))
          | ((have hjn : (0 : Int) ≤ i ∧ (i : Int) < m := by omega); (obtain ⟨bl, ol, rfl, h1⟩ := hp.2 (by omega)); (obtain ⟨⟨X, sz⟩, hx⟩ : ∃ z, ls[i]? = some z := ⟨_, List.getElem?_eq_getElem (by omega)⟩); (obtain ⟨hX, hs1⟩ := hls _ (List.mem_of_getElem? hx)); clear hp)
          | ((first | apply KO.val (g := true) rfl rfl rfl | apply KD.val (g := true) rfl rfl rfl | apply KDE.val (g := true) rfl rfl rfl | apply KDE.val rfl rfl rfl | apply KDH.val0 (g := true) rfl rfl rfl | apply KDH.val1 (g := true) rfl rfl rfl | apply KO.val rfl rfl rfl | apply KD.val rfl rfl rfl | apply KDH.val0 rfl rfl rfl | apply KO.valIn rfl rfl rfl | apply KD.valIn rfl rfl rfl); (apply qt_loadN_cel rfl rfl ?hi rfl rfl rfl ?hl ?hc); (case hc => first | exact fun _ => ((celP h1 hx).1.mono (fun _ hq => by cases hq)) | exact fun _ => ((celP h1 hx).2.mono (fun _ hq => by cases hq)) | exact fun hg => ((celP h1 hx).1.mono (fun _ hq => by cases hq)) | exact fun hg => ((celP h1 hx).2.mono (fun _ hq => by cases hq))); (case hl => rfl); (case hi => (first | exact fun _ => rfl | (intro h; first | rfl | exact h | (simp [h]; done) | (simp_all; done)))))
          | ((first | apply KO.val (g := true) rfl rfl rfl | apply KD.val (g := true) rfl rfl rfl | apply KDE.val (g := true) rfl rfl rfl | apply KDE.val rfl rfl rfl | apply KDH.val0 (g := true) rfl rfl rfl | apply KDH.val1 (g := true) rfl rfl rfl | apply KO.val rfl rfl rfl | apply KD.val rfl rfl rfl | apply KDH.val0 rfl rfl rfl | apply KO.valIn rfl rfl rfl | apply KD.valIn rfl rfl rfl); (apply qt_load1_cel rfl rfl ?hi rfl rfl ?hc); (case hc => first | exact fun _ => ((celP h1 hx).1.mono (fun _ hq => by cases hq)) | exact fun _ => ((celP h1 hx).2.mono (fun _ hq => by cases hq)) | exact fun hg => ((celP h1 hx).1.mono (fun _ hq => by cases hq)) | exact fun hg => ((celP h1 hx).2.mono (fun _ hq => by cases hq))); (case hi => (first | exact fun _ => rfl | (intro h; first | rfl | exact h | (simp [h]; done) | (simp_all; done)))))
          | (exfalso; omega)
          | (exfalso; omega)
          | fail)
        refine KW.cutA (fun s : Value × Heap => Vec 5 1 (P ++ putB X z).length (by8 (P ++ putB X z)) s.1 s.2)
          (fun s => ([(12, true, .int .i64 (tkE R z)), (11, true, .int .u64 ((tkX R z : Nat) : Int)), (9, true, .int .i64 (i : Int)), (8, true, .slice pl R.length cl'), (7, true, s.1), (6, true, .pointer (some ⟨br, 0, none⟩)), (5, true, .pointer (some ⟨bw, 0, none⟩)), (0, true, .slice (some ⟨bl, ol, none⟩) m c)],
            (bw, cl [u2] 26) :: (br, cl [.slice p' (tkR R z).length c'] 55) :: (b0, cl (by8 ys) 5) :: (φw2 ++ s.2))) ?_ (KW.cond rfl (fun hq => ?_) (fun hq => ?_))
        · rintro ⟨o2, φo2⟩ hv2
          dsimp only at hv2 ⊢
          repeat' (first
            | refine KW.seq ?_
            | refine KW.region ?_
            | refine KO.nil ?_
            | refine At.then_normal ?_
            | refine KW.skip ?_
            | refine KW.ret ?_
            | refine At.then_ret ?_
            | refine KW.block ?_
            | refine KW.exit ?_
            | refine At.block_normal ?_
            | refine At.block_ret ?_
            | refine At.loop_ret ?_
            | refine At.then_exit ?_
            | refine At.block_here rfl ?_
            | refine At.block_there rfl ?_
            | refine At.loop_exit ?_
            | refine At.cut_ret ?_
            | refine At.cutA_ret ?_
            | refine At.cutA_exit ?_
            | refine At.cut_exit ?_
            | (refine At.cut_same ?_; repeat' (first | exact FLe.nil _ | refine FLe.cons rfl rfl ?_))
            | refine KW.cond_t rfl (by first | with_reducible rfl | decide) ?_
            | refine KW.cond_f rfl (by first | with_reducible rfl | decide) ?_
            | refine KW.draw (id := 12) 10 (by decide +kernel) ?_
            | refine KW.drawE (id := 17) 10 5 (by decide +kernel) rfl ?_
            | refine KDH.mid2 ?_
            | refine KDH.mid3 ?_
            | refine KDH.done ?_
            | refine KDM.head0 ?_
            | refine KDM.head1 ?_
            | refine KDM.fin ?_
            | refine KDH.skip0' rfl (by first | with_reducible rfl | decide) rfl rfl ?_
            | refine KDH.skip1' rfl (by first | with_reducible rfl | decide) rfl rfl ?_
            | refine KDE.skip rfl rfl rfl ?_
            | ((first | refine KDM.eo2f rfl rfl rfl (eo_alloc rfl rfl rfl) ?_ | refine KDM.eo2t rfl rfl rfl (eo_alloc rfl rfl rfl) ?_); rintro _ _ ⟨_, _, rfl, rfl⟩; refine ⟨?sub, ?_⟩; (case sub => (intro _ hp; first | exact hp | (cases hp; done) | (repeat (first | exact hp | apply List.mem_cons_of_mem | apply List.mem_append_right)) | (simp_all; done))))
            | ((first | refine KDM.eo2f rfl rfl rfl (eo_box rfl rfl rfl) ?_ | refine KDM.eo2t rfl rfl rfl (eo_box rfl rfl rfl) ?_); rintro _ _ ⟨_, _, rfl, rfl⟩; refine ⟨?sub, ?_⟩; (case sub => (intro _ hp; first | exact hp | (cases hp; done) | (repeat (first | exact hp | apply List.mem_cons_of_mem | apply List.mem_append_right)) | (simp_all; done))))
            | ((first | refine KDM.eo2f rfl rfl rfl (eo_buildSlice rfl rfl rfl rfl rfl rfl rfl rfl rfl rfl rfl) ?_ | refine KDM.eo2t rfl rfl rfl (eo_buildSlice rfl rfl rfl rfl rfl rfl rfl rfl rfl rfl rfl) ?_); rintro _ _ ⟨_, _, rfl, rfl⟩; refine ⟨?sub, ?_⟩; (case sub => (intro _ hp; first | exact hp | (cases hp; done) | (repeat (first | exact hp | apply List.mem_cons_of_mem | apply List.mem_append_right)) | (simp_all; done))))
            | ((first | refine KDM.eo30 rfl rfl (eo_store (i := 0) rfl rfl rfl rfl rfl rfl rfl rfl rfl rfl rfl) ?_ | refine KDM.eo30 rfl rfl (eo_store (i := 1) rfl rfl rfl rfl rfl rfl rfl rfl rfl rfl rfl) ?_ | refine KDM.eo30 rfl rfl (eo_store (i := 2) rfl rfl rfl rfl rfl rfl rfl rfl rfl rfl rfl) ?_ | refine KDM.eo30 rfl rfl (eo_store (i := 3) rfl rfl rfl rfl rfl rfl rfl rfl rfl rfl rfl) ?_ | refine KDM.eo30 rfl rfl (eo_store (i := 4) rfl rfl rfl rfl rfl rfl rfl rfl rfl rfl rfl) ?_ | refine KDM.eo30 rfl rfl (eo_store (i := 5) rfl rfl rfl rfl rfl rfl rfl rfl rfl rfl rfl) ?_ | refine KDM.eo30 rfl rfl (eo_store (i := 6) rfl rfl rfl rfl rfl rfl rfl rfl rfl rfl rfl) ?_ | refine KDM.eo30 rfl rfl (eo_store (i := 7) rfl rfl rfl rfl rfl rfl rfl rfl rfl rfl rfl) ?_); rintro _ _ rfl; refine ⟨?sub, ?_⟩; (case sub => (intro _ hp; first | exact hp | (cases hp; done) | (repeat (first | exact hp | apply List.mem_cons_of_mem | apply List.mem_append_right)) | (simp_all; done))))
            | refine KW.draw 0 (by decide +kernel) ?_
            | refine KW.drawU rfl (by decide +kernel) ?_
            | refine KD.zero ?_
            | refine KD.skip' rfl (by first | with_reducible rfl | decide) rfl rfl ?_
            | refine KO.skip' rfl (by first | with_reducible rfl | decide) rfl rfl ?_
            | refine KO.skip0' rfl (by first | with_reducible rfl | decide) rfl ?_
            | ((first | apply KO.val rfl rfl rfl ?kq ?_ | apply KO.valIn rfl rfl rfl ?kq ?_ | apply KD.val rfl rfl rfl ?kq ?_ | apply KD.valIn rfl rfl rfl ?kq ?_ | apply KDH.val0 rfl rfl rfl ?kq ?_ | apply KDH.val1 rfl rfl rfl ?kq ?_ | apply KDH.valIn0 rfl rfl rfl ?kq ?_ | apply KDH.valIn1 rfl rfl rfl ?kq ?_ | apply KDE.val rfl rfl rfl ?kq ?_ | apply KDE.valIn rfl rfl rfl ?kq ?_ | apply KDM.q2f rfl rfl rfl ?kq ?ksub ?_ | apply KDM.q2t rfl rfl rfl ?kq ?ksub ?_); (try (case ksub => (intro _ hp; first | exact hp | (cases hp; done) | (repeat (first | exact hp | apply List.mem_cons_of_mem | apply List.mem_append_right)) | (simp_all; done)))); (case kq => ((first | ((first | apply qt_add rfl rfl rfl ?hi ?om | apply qt_sub rfl rfl rfl ?hi ?om | apply qt_mul rfl rfl rfl ?hi ?om | apply qt_remN rfl rfl rfl ?hi ?om | apply qt_quoN rfl rfl rfl ?hi ?om | apply qt_addU rfl rfl rfl ?hi ?om | apply qt_subU rfl rfl rfl ?hi ?om | apply qt_mulU rfl rfl rfl ?hi ?om | apply qt_quoU rfl rfl rfl ?hi ?om | apply qt_convI rfl rfl rfl rfl ?hi ?om | apply qt_convU rfl rfl rfl rfl ?hi ?om | apply qt_indexAddr_arr rfl rfl rfl ?hi rfl rfl ?om | apply qt_indexAddr_slice rfl rfl rfl ?hi rfl rfl ?om | apply qt_sliceL rfl rfl rfl ?hi rfl rfl ?om | apply qt_sliceH rfl rfl rfl ?hi rfl rfl ?om | apply qt_sliceLH rfl rfl rfl rfl ?hi rfl rfl ?om | apply qt_sliceLHM rfl rfl rfl rfl rfl ?hi rfl rfl ?om | apply qt_sliceHM rfl rfl rfl rfl ?hi rfl rfl ?om); (case om => (intro hg; first | omega | (simp only [Bool.or_eq_false_iff, Bool.or_eq_true, Bool.and_eq_true, Bool.and_eq_false_iff, Bool.not_eq_true', Bool.not_eq_false', Bool.not_eq_true, Bool.not_eq_false, decide_eq_true_eq, decide_eq_false_iff_not, Bool.not_not, beq_iff_eq, bne_iff_ne, Bool.beq_eq_decide_eq] at hg; omega)))) | apply qt_ev rfl ?hi | ((first | apply qt_load1 rfl rfl ?hi rfl rfl ?hm ?hc | apply qt_loadN rfl rfl ?hi rfl rfl rfl ?hm ?hc); (case hm => repeat (first | exact List.Mem.head _ | apply List.Mem.tail _ | apply List.mem_append_right _)); (case hc => rfl)) | apply qt_pick_t rfl rfl (by first | with_reducible rfl | decide) rfl ?hi | apply qt_pick_f rfl rfl (by first | with_reducible rfl | decide) rfl ?hi | ((first | apply qt_pick_and rfl rfl rfl ?hi ?pj | apply qt_pick_or rfl rfl rfl ?hi ?pj); (case pj => (intro h h2; first | with_reducible exact h2 | with_reducible rfl | (simp [h2]; done) | (simp_all; done)))) | apply qt_build rfl rfl ?hi rfl | apply qt_eqs rfl rfl rfl ?hi rfl (Or.inl rfl) | apply qt_nes rfl rfl rfl ?hi rfl (Or.inl rfl) | ((first | apply qt_rem rfl rfl rfl ?hi ?om | apply qt_quo rfl rfl rfl ?hi ?om | apply qt_shr rfl rfl rfl ?hi ?om | apply qt_shl rfl rfl rfl ?hi ?om); (case om => (intro hg; first | omega | (simp only [Bool.or_eq_false_iff, Bool.or_eq_true, Bool.and_eq_true, Bool.and_eq_false_iff, Bool.not_eq_true', Bool.not_eq_false', Bool.not_eq_true, Bool.not_eq_false, decide_eq_true_eq, decide_eq_false_iff_not, Bool.not_not, beq_iff_eq, bne_iff_ne, Bool.beq_eq_decide_eq] at hg; omega))))); (case hi => (intro h; (repeat' (first | with_reducible exact alln | with_reducible refine allc ?_ ?_ | with_reducible refine andi ?_ ?_)); all_goals (first | with_reducible rfl | with_reducible exact h | with_reducible exact andl h | with_reducible exact andr h | with_reducible exact andl (andl h) | (simp only [h, Bool.and_self]; done) | (simp [h]; done) | (simp_all; done)))))))
            | (refine KO.box rfl rfl rfl rfl rfl rfl ?_; intro _ _)
            | (refine KO.alloc rfl rfl rfl rfl rfl rfl ?_; intro _ _)
            | (refine KO.buildSlice rfl rfl rfl rfl rfl rfl rfl rfl rfl rfl rfl rfl rfl rfl ?_; intro _ _)
            | ((first | apply KO.store (i := 0) rfl rfl rfl rfl rfl rfl rfl rfl ?hl rfl ?hw ?ho ?hs | apply KO.store (i := 1) rfl rfl rfl rfl rfl rfl rfl rfl ?hl rfl ?hw ?ho ?hs | apply KO.store (i := 2) rfl rfl rfl rfl rfl rfl rfl rfl ?hl rfl ?hw ?ho ?hs | apply KO.store (i := 3) rfl rfl rfl rfl rfl rfl rfl rfl ?hl rfl ?hw ?ho ?hs | apply KO.store (i := 4) rfl rfl rfl rfl rfl rfl rfl rfl ?hl rfl ?hw ?ho ?hs | apply KO.store (i := 5) rfl rfl rfl rfl rfl rfl rfl rfl ?hl rfl ?hw ?ho ?hs | apply KO.store (i := 6) rfl rfl rfl rfl rfl rfl rfl rfl ?hl rfl ?hw ?ho ?hs | apply KO.store (i := 7) rfl rfl rfl rfl rfl rfl rfl rfl ?hl rfl ?hw ?ho ?hs); (case hl => rfl); (case hw => rfl); (case ho => rfl); (case hs => rfl))
            | ((have hjn : (0 : Int) ≤ i ∧ (i : Int) < m := by omega); (obtain ⟨bl, ol, rfl, h1⟩ := hp.2 (by omega)); (obtain ⟨⟨X, sz⟩, hx⟩ : ∃ z, ls[i]? = some z := ⟨_, List.getElem?_eq_getElem (by omega)⟩); (obtain ⟨hX, hs1⟩ := hls _ (List.mem_of_getElem? hx)); clear hp)
            | ((first | apply KO.val (g := true) rfl rfl rfl | apply KD.val (g := true) rfl rfl rfl | apply KDE.val (g := true) rfl rfl rfl | apply KDE.val rfl rfl rfl | apply KDH.val0 (g := true) rfl rfl rfl | apply KDH.val1 (g := true) rfl rfl rfl | apply KO.val rfl rfl rfl | apply KD.val rfl rfl rfl | apply KDH.val0 rfl rfl rfl | apply KO.valIn rfl rfl rfl | apply KD.valIn rfl rfl rfl); (apply qt_loadN_cel rfl rfl ?hi rfl rfl rfl ?hl ?hc); (case hc => first | exact fun _ => ((celP h1 hx).1.mono (fun _ hq => by cases hq)) | exact fun _ => ((celP h1 hx).2.mono (fun _ hq => by cases hq)) | exact fun hg => ((celP h1 hx).1.mono (fun _ hq => by cases hq)) | exact fun hg => ((celP h1 hx).2.mono (fun _ hq => by cases hq))); (case hl => rfl); (case hi => (first | exact fun _ => rfl | (intro h; first | rfl | exact h | (simp [h]; done) | (simp_all; done)))))
            | ((first | apply KO.val (g := true) rfl rfl rfl | apply KD.val (g := true) rfl rfl rfl | apply KDE.val (g := true) rfl rfl rfl | apply KDE.val rfl rfl rfl | apply KDH.val0 (g := true) rfl rfl rfl | apply KDH.val1 (g := true) rfl rfl rfl | apply KO.val rfl rfl rfl | apply KD.val rfl rfl rfl | apply KDH.val0 rfl rfl rfl | apply KO.valIn rfl rfl rfl | apply KD.valIn rfl rfl rfl); (apply qt_load1_cel rfl rfl ?hi rfl rfl ?hc); (case hc => first | exact fun _ => ((celP h1 hx).1.mono (fun _ hq => by cases hq)) | exact fun _ => ((celP h1 hx).2.mono (fun _ hq => by cases hq)) | exact fun hg => ((celP h1 hx).1.mono (fun _ hq => by cases hq)) | exact fun hg => ((celP h1 hx).2.mono (fun _ hq => by cases hq))); (case hi => (first | exact fun _ => rfl | (intro h; first | rfl | exact h | (simp [h]; done) | (simp_all; done)))))
            | (exfalso; omega)
            | (exfalso; omega)
            | fail)
          refine KW.cutA (fun s : Option Addr × Nat => SL E.β [] 1 (tkR R z).length (by8 (tkR R z)) s.1 ∧ (tkR R z).length ≤ s.2)
            (fun s => ([(9, true, .int .i64 (i : Int)), (8, true, .slice s.1 (tkR R z).length s.2), (7, true, o2), (6, true, .pointer (some ⟨br, 0, none⟩)), (5, true, .pointer (some ⟨bw, 0, none⟩)), (0, true, .slice (some ⟨bl, ol, none⟩) m c)],
              (bw, cl [u2] 26) :: (br, cl [.slice p' (tkR R z).length c'] 55) :: (b0, cl (by8 ys) 5) :: (φw2 ++ φo2))) ?_ (KW.cond rfl (fun hq => ?_) (fun hq => ?_))
          · rintro ⟨pl2, cl2⟩ ⟨hS2, hS2l⟩
            dsimp only at hS2 hS2l ⊢
            obtain ⟨po, co, rfl⟩ := hv2.len
            repeat' (first
              | refine KW.seq ?_
              | refine KW.region ?_
              | refine KO.nil ?_
              | refine At.then_normal ?_
              | refine KW.skip ?_
              | refine KW.ret ?_
              | refine At.then_ret ?_
              | refine KW.block ?_
              | refine KW.exit ?_
              | refine At.block_normal ?_
              | refine At.block_ret ?_
              | refine At.loop_ret ?_
              | refine At.then_exit ?_
              | refine At.block_here rfl ?_
              | refine At.block_there rfl ?_
              | refine At.loop_exit ?_
              | refine At.cut_ret ?_
              | refine At.cutA_ret ?_
              | refine At.cutA_exit ?_
              | refine At.cut_exit ?_
              | (refine At.cut_same ?_; repeat' (first | exact FLe.nil _ | refine FLe.cons rfl rfl ?_))
              | refine KW.cond_t rfl (by first | with_reducible rfl | decide) ?_
              | refine KW.cond_f rfl (by first | with_reducible rfl | decide) ?_
              | refine KW.draw (id := 12) 10 (by decide +kernel) ?_
              | refine KW.drawE (id := 17) 10 5 (by decide +kernel) rfl ?_
              | refine KDH.mid2 ?_
              | refine KDH.mid3 ?_
              | refine KDH.done ?_
              | refine KDM.head0 ?_
              | refine KDM.head1 ?_
              | refine KDM.fin ?_
              | refine KDH.skip0' rfl (by first | with_reducible rfl | decide) rfl rfl ?_
              | refine KDH.skip1' rfl (by first | with_reducible rfl | decide) rfl rfl ?_
              | refine KDE.skip rfl rfl rfl ?_
              | ((first | refine KDM.eo2f rfl rfl rfl (eo_alloc rfl rfl rfl) ?_ | refine KDM.eo2t rfl rfl rfl (eo_alloc rfl rfl rfl) ?_); rintro _ _ ⟨_, _, rfl, rfl⟩; refine ⟨?sub, ?_⟩; (case sub => (intro _ hp; first | exact hp | (cases hp; done) | (repeat (first | exact hp | apply List.mem_cons_of_mem | apply List.mem_append_right)) | (simp_all; done))))
              | ((first | refine KDM.eo2f rfl rfl rfl (eo_box rfl rfl rfl) ?_ | refine KDM.eo2t rfl rfl rfl (eo_box rfl rfl rfl) ?_); rintro _ _ ⟨_, _, rfl, rfl⟩; refine ⟨?sub, ?_⟩; (case sub => (intro _ hp; first | exact hp | (cases hp; done) | (repeat (first | exact hp | apply List.mem_cons_of_mem | apply List.mem_append_right)) | (simp_all; done))))
              | ((first | refine KDM.eo2f rfl rfl rfl (eo_buildSlice rfl rfl rfl rfl rfl rfl rfl rfl rfl rfl rfl) ?_ | refine KDM.eo2t rfl rfl rfl (eo_buildSlice rfl rfl rfl rfl rfl rfl rfl rfl rfl rfl rfl) ?_); rintro _ _ ⟨_, _, rfl, rfl⟩; refine ⟨?sub, ?_⟩; (case sub => (intro _ hp; first | exact hp | (cases hp; done) | (repeat (first | exact hp | apply List.mem_cons_of_mem | apply List.mem_append_right)) | (simp_all; done))))
              | ((first | refine KDM.eo30 rfl rfl (eo_store (i := 0) rfl rfl rfl rfl rfl rfl rfl rfl rfl rfl rfl) ?_ | refine KDM.eo30 rfl rfl (eo_store (i := 1) rfl rfl rfl rfl rfl rfl rfl rfl rfl rfl rfl) ?_ | refine KDM.eo30 rfl rfl (eo_store (i := 2) rfl rfl rfl rfl rfl rfl rfl rfl rfl rfl rfl) ?_ | refine KDM.eo30 rfl rfl (eo_store (i := 3) rfl rfl rfl rfl rfl rfl rfl rfl rfl rfl rfl) ?_ | refine KDM.eo30 rfl rfl (eo_store (i := 4) rfl rfl rfl rfl rfl rfl rfl rfl rfl rfl rfl) ?_ | refine KDM.eo30 rfl rfl (eo_store (i := 5) rfl rfl rfl rfl rfl rfl rfl rfl rfl rfl rfl) ?_ | refine KDM.eo30 rfl rfl (eo_store (i := 6) rfl rfl rfl rfl rfl rfl rfl rfl rfl rfl rfl) ?_ | refine KDM.eo30 rfl rfl (eo_store (i := 7) rfl rfl rfl rfl rfl rfl rfl rfl rfl rfl rfl) ?_); rintro _ _ rfl; refine ⟨?sub, ?_⟩; (case sub => (intro _ hp; first | exact hp | (cases hp; done) | (repeat (first | exact hp | apply List.mem_cons_of_mem | apply List.mem_append_right)) | (simp_all; done))))
              | refine KW.draw 0 (by decide +kernel) ?_
              | refine KW.drawU rfl (by decide +kernel) ?_
              | refine KD.zero ?_
              | refine KD.skip' rfl (by first | with_reducible rfl | decide) rfl rfl ?_
              | refine KO.skip' rfl (by first | with_reducible rfl | decide) rfl rfl ?_
              | refine KO.skip0' rfl (by first | with_reducible rfl | decide) rfl ?_
              | ((first | apply KO.val rfl rfl rfl ?kq ?_ | apply KO.valIn rfl rfl rfl ?kq ?_ | apply KD.val rfl rfl rfl ?kq ?_ | apply KD.valIn rfl rfl rfl ?kq ?_ | apply KDH.val0 rfl rfl rfl ?kq ?_ | apply KDH.val1 rfl rfl rfl ?kq ?_ | apply KDH.valIn0 rfl rfl rfl ?kq ?_ | apply KDH.valIn1 rfl rfl rfl ?kq ?_ | apply KDE.val rfl rfl rfl ?kq ?_ | apply KDE.valIn rfl rfl rfl ?kq ?_ | apply KDM.q2f rfl rfl rfl ?kq ?ksub ?_ | apply KDM.q2t rfl rfl rfl ?kq ?ksub ?_); (try (case ksub => (intro _ hp; first | exact hp | (cases hp; done) | (repeat (first | exact hp | apply List.mem_cons_of_mem | apply List.mem_append_right)) | (simp_all; done)))); (case kq => ((first | ((first | apply qt_add rfl rfl rfl ?hi ?om | apply qt_sub rfl rfl rfl ?hi ?om | apply qt_mul rfl rfl rfl ?hi ?om | apply qt_remN rfl rfl rfl ?hi ?om | apply qt_quoN rfl rfl rfl ?hi ?om | apply qt_addU rfl rfl rfl ?hi ?om | apply qt_subU rfl rfl rfl ?hi ?om | apply qt_mulU rfl rfl rfl ?hi ?om | apply qt_quoU rfl rfl rfl ?hi ?om | apply qt_convI rfl rfl rfl rfl ?hi ?om | apply qt_convU rfl rfl rfl rfl ?hi ?om | apply qt_indexAddr_arr rfl rfl rfl ?hi rfl rfl ?om | apply qt_indexAddr_slice rfl rfl rfl ?hi rfl rfl ?om | apply qt_sliceL rfl rfl rfl ?hi rfl rfl ?om | apply qt_sliceH rfl rfl rfl ?hi rfl rfl ?om | apply qt_sliceLH rfl rfl rfl rfl ?hi rfl rfl ?om | apply qt_sliceLHM rfl rfl rfl rfl rfl ?hi rfl rfl ?om | apply qt_sliceHM rfl rfl rfl rfl ?hi rfl rfl ?om); (case om => (intro hg; first | omega | (simp only [Bool.or_eq_false_iff, Bool.or_eq_true, Bool.and_eq_true, Bool.and_eq_false_iff, Bool.not_eq_true', Bool.not_eq_false', Bool.not_eq_true, Bool.not_eq_false, decide_eq_true_eq, decide_eq_false_iff_not, Bool.not_not, beq_iff_eq, bne_iff_ne, Bool.beq_eq_decide_eq] at hg; omega)))) | apply qt_ev rfl ?hi | ((first | apply qt_load1 rfl rfl ?hi rfl rfl ?hm ?hc | apply qt_loadN rfl rfl ?hi rfl rfl rfl ?hm ?hc); (case hm => repeat (first | exact List.Mem.head _ | apply List.Mem.tail _ | apply List.mem_append_right _)); (case hc => rfl)) | apply qt_pick_t rfl rfl (by first | with_reducible rfl | decide) rfl ?hi | apply qt_pick_f rfl rfl (by first | with_reducible rfl | decide) rfl ?hi | ((first | apply qt_pick_and rfl rfl rfl ?hi ?pj | apply qt_pick_or rfl rfl rfl ?hi ?pj); (case pj => (intro h h2; first | with_reducible exact h2 | with_reducible rfl | (simp [h2]; done) | (simp_all; done)))) | apply qt_build rfl rfl ?hi rfl | apply qt_eqs rfl rfl rfl ?hi rfl (Or.inl rfl) | apply qt_nes rfl rfl rfl ?hi rfl (Or.inl rfl) | ((first | apply qt_rem rfl rfl rfl ?hi ?om | apply qt_quo rfl rfl rfl ?hi ?om | apply qt_shr rfl rfl rfl ?hi ?om | apply qt_shl rfl rfl rfl ?hi ?om); (case om => (intro hg; first | omega | (simp only [Bool.or_eq_false_iff, Bool.or_eq_true, Bool.and_eq_true, Bool.and_eq_false_iff, Bool.not_eq_true', Bool.not_eq_false', Bool.not_eq_true, Bool.not_eq_false, decide_eq_true_eq, decide_eq_false_iff_not, Bool.not_not, beq_iff_eq, bne_iff_ne, Bool.beq_eq_decide_eq] at hg; omega))))); (case hi => (intro h; (repeat' (first | with_reducible exact alln | with_reducible refine allc ?_ ?_ | with_reducible refine andi ?_ ?_)); all_goals (first | with_reducible rfl | with_reducible exact h | with_reducible exact andl h | with_reducible exact andr h | with_reducible exact andl (andl h) | (simp only [h, Bool.and_self]; done) | (simp [h]; done) | (simp_all; done)))))))
              | (refine KO.box rfl rfl rfl rfl rfl rfl ?_; intro _ _)
              | (refine KO.alloc rfl rfl rfl rfl rfl rfl ?_; intro _ _)
              | (refine KO.buildSlice rfl rfl rfl rfl rfl rfl rfl rfl rfl rfl rfl rfl rfl rfl ?_; intro _ _)
              | ((first | apply KO.store (i := 0) rfl rfl rfl rfl rfl rfl rfl rfl ?hl rfl ?hw ?ho ?hs | apply KO.store (i := 1) rfl rfl rfl rfl rfl rfl rfl rfl ?hl rfl ?hw ?ho ?hs | apply KO.store (i := 2) rfl rfl rfl rfl rfl rfl rfl rfl ?hl rfl ?hw ?ho ?hs | apply KO.store (i := 3) rfl rfl rfl rfl rfl rfl rfl rfl ?hl rfl ?hw ?ho ?hs | apply KO.store (i := 4) rfl rfl rfl rfl rfl rfl rfl rfl ?hl rfl ?hw ?ho ?hs | apply KO.store (i := 5) rfl rfl rfl rfl rfl rfl rfl rfl ?hl rfl ?hw ?ho ?hs | apply KO.store (i := 6) rfl rfl rfl rfl rfl rfl rfl rfl ?hl rfl ?hw ?ho ?hs | apply KO.store (i := 7) rfl rfl rfl rfl rfl rfl rfl rfl ?hl rfl ?hw ?ho ?hs); (case hl => rfl); (case hw => rfl); (case ho => rfl); (case hs => rfl))
              | (refine KW.cond rfl ?_ ?_ <;> (intro hc; try simp only [Bool.or_eq_false_iff, Bool.or_eq_true, Bool.and_eq_true, Bool.and_eq_false_iff, Bool.not_eq_true', Bool.not_eq_false', Bool.not_eq_true, Bool.not_eq_false, decide_eq_true_eq, decide_eq_false_iff_not, Bool.not_not, beq_iff_eq, bne_iff_ne, Bool.beq_eq_decide_eq] at hc))
              | exact absurd trivial ‹¬True›
              | ((have hjn : (0 : Int) ≤ i ∧ (i : Int) < m := by omega); (obtain ⟨bl, ol, rfl, h1⟩ := hp.2 (by omega)); (obtain ⟨⟨X, sz⟩, hx⟩ : ∃ z, ls[i]? = some z := ⟨_, List.getElem?_eq_getElem (by omega)⟩); (obtain ⟨hX, hs1⟩ := hls _ (List.mem_of_getElem? hx)); clear hp)
              | ((first | apply KO.val (g := true) rfl rfl rfl | apply KD.val (g := true) rfl rfl rfl | apply KDE.val (g := true) rfl rfl rfl | apply KDE.val rfl rfl rfl | apply KDH.val0 (g := true) rfl rfl rfl | apply KDH.val1 (g := true) rfl rfl rfl | apply KO.val rfl rfl rfl | apply KD.val rfl rfl rfl | apply KDH.val0 rfl rfl rfl | apply KO.valIn rfl rfl rfl | apply KD.valIn rfl rfl rfl); (apply qt_loadN_cel rfl rfl ?hi rfl rfl rfl ?hl ?hc); (case hc => first | exact fun _ => ((celP h1 hx).1.mono (fun _ hq => by cases hq)) | exact fun _ => ((celP h1 hx).2.mono (fun _ hq => by cases hq)) | exact fun hg => ((celP h1 hx).1.mono (fun _ hq => by cases hq)) | exact fun hg => ((celP h1 hx).2.mono (fun _ hq => by cases hq))); (case hl => rfl); (case hi => (first | exact fun _ => rfl | (intro h; first | rfl | exact h | (simp [h]; done) | (simp_all; done)))))
              | ((first | apply KO.val (g := true) rfl rfl rfl | apply KD.val (g := true) rfl rfl rfl | apply KDE.val (g := true) rfl rfl rfl | apply KDE.val rfl rfl rfl | apply KDH.val0 (g := true) rfl rfl rfl | apply KDH.val1 (g := true) rfl rfl rfl | apply KO.val rfl rfl rfl | apply KD.val rfl rfl rfl | apply KDH.val0 rfl rfl rfl | apply KO.valIn rfl rfl rfl | apply KD.valIn rfl rfl rfl); (apply qt_load1_cel rfl rfl ?hi rfl rfl ?hc); (case hc => first | exact fun _ => ((celP h1 hx).1.mono (fun _ hq => by cases hq)) | exact fun _ => ((celP h1 hx).2.mono (fun _ hq => by cases hq)) | exact fun hg => ((celP h1 hx).1.mono (fun _ hq => by cases hq)) | exact fun hg => ((celP h1 hx).2.mono (fun _ hq => by cases hq))); (case hi => (first | exact fun _ => rfl | (intro h; first | rfl | exact h | (simp [h]; done) | (simp_all; done)))))
              | (exfalso; omega)
              | (exfalso; omega)
              | fail)
            refine KO.callF ((bw, cl [u2] 26) :: φw2) ((br, cl [.slice p' (tkR R z).length c'] 55) :: (b0, cl (by8 ys) 5) :: φo2) (by classical exact List.perm_iff_count.2 (fun _ => by first | (simp only [List.count_append, List.count_cons, List.count_nil, List.append_assoc, List.cons_append, List.nil_append]; done) | (simp only [List.count_append, List.count_cons, List.count_nil, List.append_assoc, List.cons_append, List.nil_append]; omega))) rfl rfl rfl rfl rfl rfl rfl (Bytes_p _ bw _ u2 φw2 (P ++ putB X z) rfl hu2 (by omega)) ?_
            rintro _ _ ⟨b9, rfl, rfl⟩
            repeat' (first
              | refine KW.seq ?_
              | refine KW.region ?_
              | refine KO.nil ?_
              | refine At.then_normal ?_
              | refine KW.skip ?_
              | refine KW.ret ?_
              | refine At.then_ret ?_
              | refine KW.block ?_
              | refine KW.exit ?_
              | refine At.block_normal ?_
              | refine At.block_ret ?_
              | refine At.loop_ret ?_
              | refine At.then_exit ?_
              | refine At.block_here rfl ?_
              | refine At.block_there rfl ?_
              | refine At.loop_exit ?_
              | refine At.cut_ret ?_
              | refine At.cutA_ret ?_
              | refine At.cutA_exit ?_
              | refine At.cut_exit ?_
              | (refine At.cut_same ?_; repeat' (first | exact FLe.nil _ | refine FLe.cons rfl rfl ?_))
              | refine KW.cond_t rfl (by first | with_reducible rfl | decide) ?_
              | refine KW.cond_f rfl (by first | with_reducible rfl | decide) ?_
              | refine KW.draw (id := 12) 10 (by decide +kernel) ?_
              | refine KW.drawE (id := 17) 10 5 (by decide +kernel) rfl ?_
              | refine KDH.mid2 ?_
              | refine KDH.mid3 ?_
              | refine KDH.done ?_
              | refine KDM.head0 ?_
              | refine KDM.head1 ?_
              | refine KDM.fin ?_
              | refine KDH.skip0' rfl (by first | with_reducible rfl | decide) rfl rfl ?_
              | refine KDH.skip1' rfl (by first | with_reducible rfl | decide) rfl rfl ?_
              | refine KDE.skip rfl rfl rfl ?_
              | ((first | refine KDM.eo2f rfl rfl rfl (eo_alloc rfl rfl rfl) ?_ | refine KDM.eo2t rfl rfl rfl (eo_alloc rfl rfl rfl) ?_); rintro _ _ ⟨_, _, rfl, rfl⟩; refine ⟨?sub, ?_⟩; (case sub => (intro _ hp; first | exact hp | (cases hp; done) | (repeat (first | exact hp | apply List.mem_cons_of_mem | apply List.mem_append_right)) | (simp_all; done))))
              | ((first | refine KDM.eo2f rfl rfl rfl (eo_box rfl rfl rfl) ?_ | refine KDM.eo2t rfl rfl rfl (eo_box rfl rfl rfl) ?_); rintro _ _ ⟨_, _, rfl, rfl⟩; refine ⟨?sub, ?_⟩; (case sub => (intro _ hp; first | exact hp | (cases hp; done) | (repeat (first | exact hp | apply List.mem_cons_of_mem | apply List.mem_append_right)) | (simp_all; done))))
              | ((first | refine KDM.eo2f rfl rfl rfl (eo_buildSlice rfl rfl rfl rfl rfl rfl rfl rfl rfl rfl rfl) ?_ | refine KDM.eo2t rfl rfl rfl (eo_buildSlice rfl rfl rfl rfl rfl rfl rfl rfl rfl rfl rfl) ?_); rintro _ _ ⟨_, _, rfl, rfl⟩; refine ⟨?sub, ?_⟩; (case sub => (intro _ hp; first | exact hp | (cases hp; done) | (repeat (first | exact hp | apply List.mem_cons_of_mem | apply List.mem_append_right)) | (simp_all; done))))
              | ((first | refine KDM.eo30 rfl rfl (eo_store (i := 0) rfl rfl rfl rfl rfl rfl rfl rfl rfl rfl rfl) ?_ | refine KDM.eo30 rfl rfl (eo_store (i := 1) rfl rfl rfl rfl rfl rfl rfl rfl rfl rfl rfl) ?_ | refine KDM.eo30 rfl rfl (eo_store (i := 2) rfl rfl rfl rfl rfl rfl rfl rfl rfl rfl rfl) ?_ | refine KDM.eo30 rfl rfl (eo_store (i := 3) rfl rfl rfl rfl rfl rfl rfl rfl rfl rfl rfl) ?_ | refine KDM.eo30 rfl rfl (eo_store (i := 4) rfl rfl rfl rfl rfl rfl rfl rfl rfl rfl rfl) ?_ | refine KDM.eo30 rfl rfl (eo_store (i := 5) rfl rfl rfl rfl rfl rfl rfl rfl rfl rfl rfl) ?_ | refine KDM.eo30 rfl rfl (eo_store (i := 6) rfl rfl rfl rfl rfl rfl rfl rfl rfl rfl rfl) ?_ | refine KDM.eo30 rfl rfl (eo_store (i := 7) rfl rfl rfl rfl rfl rfl rfl rfl rfl rfl rfl) ?_); rintro _ _ rfl; refine ⟨?sub, ?_⟩; (case sub => (intro _ hp; first | exact hp | (cases hp; done) | (repeat (first | exact hp | apply List.mem_cons_of_mem | apply List.mem_append_right)) | (simp_all; done))))
              | refine KW.draw 0 (by decide +kernel) ?_
              | refine KW.drawU rfl (by decide +kernel) ?_
              | refine KD.zero ?_
              | refine KD.skip' rfl (by first | with_reducible rfl | decide) rfl rfl ?_
              | refine KO.skip' rfl (by first | with_reducible rfl | decide) rfl rfl ?_
              | refine KO.skip0' rfl (by first | with_reducible rfl | decide) rfl ?_
              | ((first | apply KO.val rfl rfl rfl ?kq ?_ | apply KO.valIn rfl rfl rfl ?kq ?_ | apply KD.val rfl rfl rfl ?kq ?_ | apply KD.valIn rfl rfl rfl ?kq ?_ | apply KDH.val0 rfl rfl rfl ?kq ?_ | apply KDH.val1 rfl rfl rfl ?kq ?_ | apply KDH.valIn0 rfl rfl rfl ?kq ?_ | apply KDH.valIn1 rfl rfl rfl ?kq ?_ | apply KDE.val rfl rfl rfl ?kq ?_ | apply KDE.valIn rfl rfl rfl ?kq ?_ | apply KDM.q2f rfl rfl rfl ?kq ?ksub ?_ | apply KDM.q2t rfl rfl rfl ?kq ?ksub ?_); (try (case ksub => (intro _ hp; first | exact hp | (cases hp; done) | (repeat (first | exact hp | apply List.mem_cons_of_mem | apply List.mem_append_right)) | (simp_all; done)))); (case kq => ((first | ((first | apply qt_add rfl rfl rfl ?hi ?om | apply qt_sub rfl rfl rfl ?hi ?om | apply qt_mul rfl rfl rfl ?hi ?om | apply qt_remN rfl rfl rfl ?hi ?om | apply qt_quoN rfl rfl rfl ?hi ?om | apply qt_addU rfl rfl rfl ?hi ?om | apply qt_subU rfl rfl rfl ?hi ?om | apply qt_mulU rfl rfl rfl ?hi ?om | apply qt_quoU rfl rfl rfl ?hi ?om | apply qt_convI rfl rfl rfl rfl ?hi ?om | apply qt_convU rfl rfl rfl rfl ?hi ?om | apply qt_indexAddr_arr rfl rfl rfl ?hi rfl rfl ?om | apply qt_indexAddr_slice rfl rfl rfl ?hi rfl rfl ?om | apply qt_sliceL rfl rfl rfl ?hi rfl rfl ?om | apply qt_sliceH rfl rfl rfl ?hi rfl rfl ?om | apply qt_sliceLH rfl rfl rfl rfl ?hi rfl rfl ?om | apply qt_sliceLHM rfl rfl rfl rfl rfl ?hi rfl rfl ?om | apply qt_sliceHM rfl rfl rfl rfl ?hi rfl rfl ?om); (case om => (intro hg; first | omega | (simp only [Bool.or_eq_false_iff, Bool.or_eq_true, Bool.and_eq_true, Bool.and_eq_false_iff, Bool.not_eq_true', Bool.not_eq_false', Bool.not_eq_true, Bool.not_eq_false, decide_eq_true_eq, decide_eq_false_iff_not, Bool.not_not, beq_iff_eq, bne_iff_ne, Bool.beq_eq_decide_eq] at hg; omega)))) | apply qt_ev rfl ?hi | ((first | apply qt_load1 rfl rfl ?hi rfl rfl ?hm ?hc | apply qt_loadN rfl rfl ?hi rfl rfl rfl ?hm ?hc); (case hm => repeat (first | exact List.Mem.head _ | apply List.Mem.tail _ | apply List.mem_append_right _)); (case hc => rfl)) | refine qt_callQ rfl rfl ?hi (fun hg => same_t _ _ (P ++ putB X z) _ _ _ _ _ _ rfl rfl (SL.ofBlk (b := b9) (e := 5) (by simp) (by rw [by8_len]; omega)) (SL.ofVec hv2 (by intro q hq; simp [hq])) (by omega)) | apply qt_pick_t rfl rfl (by first | with_reducible rfl | decide) rfl ?hi | apply qt_pick_f rfl rfl (by first | with_reducible rfl | decide) rfl ?hi | ((first | apply qt_pick_and rfl rfl rfl ?hi ?pj | apply qt_pick_or rfl rfl rfl ?hi ?pj); (case pj => (intro h h2; first | with_reducible exact h2 | with_reducible rfl | (simp [h2]; done) | (simp_all; done)))) | apply qt_build rfl rfl ?hi rfl | apply qt_eqs rfl rfl rfl ?hi rfl (Or.inl rfl) | apply qt_nes rfl rfl rfl ?hi rfl (Or.inl rfl) | ((first | apply qt_rem rfl rfl rfl ?hi ?om | apply qt_quo rfl rfl rfl ?hi ?om | apply qt_shr rfl rfl rfl ?hi ?om | apply qt_shl rfl rfl rfl ?hi ?om); (case om => (intro hg; first | omega | (simp only [Bool.or_eq_false_iff, Bool.or_eq_true, Bool.and_eq_true, Bool.and_eq_false_iff, Bool.not_eq_true', Bool.not_eq_false', Bool.not_eq_true, Bool.not_eq_false, decide_eq_true_eq, decide_eq_false_iff_not, Bool.not_not, beq_iff_eq, bne_iff_ne, Bool.beq_eq_decide_eq] at hg; omega))))); (case hi => (intro h; (repeat' (first | with_reducible exact alln | with_reducible refine allc ?_ ?_ | with_reducible refine andi ?_ ?_)); all_goals (first | with_reducible rfl | with_reducible exact h | with_reducible exact andl h | with_reducible exact andr h | with_reducible exact andl (andl h) | (simp only [h, Bool.and_self]; done) | (simp [h]; done) | (simp_all; done)))))))
              | (refine KO.box rfl rfl rfl rfl rfl rfl ?_; intro _ _)
              | (refine KO.alloc rfl rfl rfl rfl rfl rfl ?_; intro _ _)
              | (refine KO.buildSlice rfl rfl rfl rfl rfl rfl rfl rfl rfl rfl rfl rfl rfl rfl ?_; intro _ _)
              | ((first | apply KO.store (i := 0) rfl rfl rfl rfl rfl rfl rfl rfl ?hl rfl ?hw ?ho ?hs | apply KO.store (i := 1) rfl rfl rfl rfl rfl rfl rfl rfl ?hl rfl ?hw ?ho ?hs | apply KO.store (i := 2) rfl rfl rfl rfl rfl rfl rfl rfl ?hl rfl ?hw ?ho ?hs | apply KO.store (i := 3) rfl rfl rfl rfl rfl rfl rfl rfl ?hl rfl ?hw ?ho ?hs | apply KO.store (i := 4) rfl rfl rfl rfl rfl rfl rfl rfl ?hl rfl ?hw ?ho ?hs | apply KO.store (i := 5) rfl rfl rfl rfl rfl rfl rfl rfl ?hl rfl ?hw ?ho ?hs | apply KO.store (i := 6) rfl rfl rfl rfl rfl rfl rfl rfl ?hl rfl ?hw ?ho ?hs | apply KO.store (i := 7) rfl rfl rfl rfl rfl rfl rfl rfl ?hl rfl ?hw ?ho ?hs); (case hl => rfl); (case hw => rfl); (case ho => rfl); (case hs => rfl))
              | (refine KW.cond rfl ?_ ?_ <;> (intro hc; try simp only [Bool.or_eq_false_iff, Bool.or_eq_true, Bool.and_eq_true, Bool.and_eq_false_iff, Bool.not_eq_true', Bool.not_eq_false', Bool.not_eq_true, Bool.not_eq_false, decide_eq_true_eq, decide_eq_false_iff_not, Bool.not_not, beq_iff_eq, bne_iff_ne, Bool.beq_eq_decide_eq] at hc))
              | exact absurd trivial ‹¬True›
              | ((have hjn : (0 : Int) ≤ i ∧ (i : Int) < m := by omega); (obtain ⟨bl, ol, rfl, h1⟩ := hp.2 (by omega)); (obtain ⟨⟨X, sz⟩, hx⟩ : ∃ z, ls[i]? = some z := ⟨_, List.getElem?_eq_getElem (by omega)⟩); (obtain ⟨hX, hs1⟩ := hls _ (List.mem_of_getElem? hx)); clear hp)
              | ((first | apply KO.val (g := true) rfl rfl rfl | apply KD.val (g := true) rfl rfl rfl | apply KDE.val (g := true) rfl rfl rfl | apply KDE.val rfl rfl rfl | apply KDH.val0 (g := true) rfl rfl rfl | apply KDH.val1 (g := true) rfl rfl rfl | apply KO.val rfl rfl rfl | apply KD.val rfl rfl rfl | apply KDH.val0 rfl rfl rfl | apply KO.valIn rfl rfl rfl | apply KD.valIn rfl rfl rfl); (apply qt_loadN_cel rfl rfl ?hi rfl rfl rfl ?hl ?hc); (case hc => first | exact fun _ => ((celP h1 hx).1.mono (fun _ hq => by cases hq)) | exact fun _ => ((celP h1 hx).2.mono (fun _ hq => by cases hq)) | exact fun hg => ((celP h1 hx).1.mono (fun _ hq => by cases hq)) | exact fun hg => ((celP h1 hx).2.mono (fun _ hq => by cases hq))); (case hl => rfl); (case hi => (first | exact fun _ => rfl | (intro h; first | rfl | exact h | (simp [h]; done) | (simp_all; done)))))
              | ((first | apply KO.val (g := true) rfl rfl rfl | apply KD.val (g := true) rfl rfl rfl | apply KDE.val (g := true) rfl rfl rfl | apply KDE.val rfl rfl rfl | apply KDH.val0 (g := true) rfl rfl rfl | apply KDH.val1 (g := true) rfl rfl rfl | apply KO.val rfl rfl rfl | apply KD.val rfl rfl rfl | apply KDH.val0 rfl rfl rfl | apply KO.valIn rfl rfl rfl | apply KD.valIn rfl rfl rfl); (apply qt_load1_cel rfl rfl ?hi rfl rfl ?hc); (case hc => first | exact fun _ => ((celP h1 hx).1.mono (fun _ hq => by cases hq)) | exact fun _ => ((celP h1 hx).2.mono (fun _ hq => by cases hq)) | exact fun hg => ((celP h1 hx).1.mono (fun _ hq => by cases hq)) | exact fun hg => ((celP h1 hx).2.mono (fun _ hq => by cases hq))); (case hi => (first | exact fun _ => rfl | (intro h; first | rfl | exact h | (simp [h]; done) | (simp_all; done)))))
              | (exfalso; omega)
              | (exfalso; omega)
              | fail)
            refine KO.callF [(br, cl [.slice p' (tkR R z).length c'] 55), (b0, cl (by8 ys) 5)] ((b9, cl (by8 (P ++ putB X z)) 5) :: (bw, cl [u2] 26) :: φw2 ++ φo2) (by classical exact List.perm_iff_count.2 (fun _ => by first | (simp only [List.count_append, List.count_cons, List.count_nil, List.append_assoc, List.cons_append, List.nil_append]; done) | (simp only [List.count_append, List.count_cons, List.count_nil, List.append_assoc, List.cons_append, List.nil_append]; omega))) rfl rfl rfl rfl rfl rfl rfl (Rest_p _ [(b0, cl (by8 ys) 5)] br _ c' (by8 (tkR R z)) p' (hS'.mono (fun q hq => List.mem_cons_of_mem _ hq)) hp' (by8_one _) (by omega)) ?_
            rintro _ _ ⟨b10, rfl, rfl⟩
            repeat' (first
              | refine KW.seq ?_
              | refine KW.region ?_
              | refine KO.nil ?_
              | refine At.then_normal ?_
              | refine KW.skip ?_
              | refine KW.ret ?_
              | refine At.then_ret ?_
              | refine KW.block ?_
              | refine KW.exit ?_
              | refine At.block_normal ?_
              | refine At.block_ret ?_
              | refine At.loop_ret ?_
              | refine At.then_exit ?_
              | refine At.block_here rfl ?_
              | refine At.block_there rfl ?_
              | refine At.loop_exit ?_
              | refine At.cut_ret ?_
              | refine At.cutA_ret ?_
              | refine At.cutA_exit ?_
              | refine At.cut_exit ?_
              | (refine At.cut_same ?_; repeat' (first | exact FLe.nil _ | refine FLe.cons rfl rfl ?_))
              | refine KW.cond_t rfl (by first | with_reducible rfl | decide) ?_
              | refine KW.cond_f rfl (by first | with_reducible rfl | decide) ?_
              | refine KW.draw (id := 12) 10 (by decide +kernel) ?_
              | refine KW.drawE (id := 17) 10 5 (by decide +kernel) rfl ?_
              | refine KDH.mid2 ?_
              | refine KDH.mid3 ?_
              | refine KDH.done ?_
              | refine KDM.head0 ?_
              | refine KDM.head1 ?_
              | refine KDM.fin ?_
              | refine KDH.skip0' rfl (by first | with_reducible rfl | decide) rfl rfl ?_
              | refine KDH.skip1' rfl (by first | with_reducible rfl | decide) rfl rfl ?_
              | refine KDE.skip rfl rfl rfl ?_
              | ((first | refine KDM.eo2f rfl rfl rfl (eo_alloc rfl rfl rfl) ?_ | refine KDM.eo2t rfl rfl rfl (eo_alloc rfl rfl rfl) ?_); rintro _ _ ⟨_, _, rfl, rfl⟩; refine ⟨?sub, ?_⟩; (case sub => (intro _ hp; first | exact hp | (cases hp; done) | (repeat (first | exact hp | apply List.mem_cons_of_mem | apply List.mem_append_right)) | (simp_all; done))))
              | ((first | refine KDM.eo2f rfl rfl rfl (eo_box rfl rfl rfl) ?_ | refine KDM.eo2t rfl rfl rfl (eo_box rfl rfl rfl) ?_); rintro _ _ ⟨_, _, rfl, rfl⟩; refine ⟨?sub, ?_⟩; (case sub => (intro _ hp; first | exact hp | (cases hp; done) | (repeat (first | exact hp | apply List.mem_cons_of_mem | apply List.mem_append_right)) | (simp_all; done))))
              | ((first | refine KDM.eo2f rfl rfl rfl (eo_buildSlice rfl rfl rfl rfl rfl rfl rfl rfl rfl rfl rfl) ?_ | refine KDM.eo2t rfl rfl rfl (eo_buildSlice rfl rfl rfl rfl rfl rfl rfl rfl rfl rfl rfl) ?_); rintro _ _ ⟨_, _, rfl, rfl⟩; refine ⟨?sub, ?_⟩; (case sub => (intro _ hp; first | exact hp | (cases hp; done) | (repeat (first | exact hp | apply List.mem_cons_of_mem | apply List.mem_append_right)) | (simp_all; done))))
              | ((first | refine KDM.eo30 rfl rfl (eo_store (i := 0) rfl rfl rfl rfl rfl rfl rfl rfl rfl rfl rfl) ?_ | refine KDM.eo30 rfl rfl (eo_store (i := 1) rfl rfl rfl rfl rfl rfl rfl rfl rfl rfl rfl) ?_ | refine KDM.eo30 rfl rfl (eo_store (i := 2) rfl rfl rfl rfl rfl rfl rfl rfl rfl rfl rfl) ?_ | refine KDM.eo30 rfl rfl (eo_store (i := 3) rfl rfl rfl rfl rfl rfl rfl rfl rfl rfl rfl) ?_ | refine KDM.eo30 rfl rfl (eo_store (i := 4) rfl rfl rfl rfl rfl rfl rfl rfl rfl rfl rfl) ?_ | refine KDM.eo30 rfl rfl (eo_store (i := 5) rfl rfl rfl rfl rfl rfl rfl rfl rfl rfl rfl) ?_ | refine KDM.eo30 rfl rfl (eo_store (i := 6) rfl rfl rfl rfl rfl rfl rfl rfl rfl rfl rfl) ?_ | refine KDM.eo30 rfl rfl (eo_store (i := 7) rfl rfl rfl rfl rfl rfl rfl rfl rfl rfl rfl) ?_); rintro _ _ rfl; refine ⟨?sub, ?_⟩; (case sub => (intro _ hp; first | exact hp | (cases hp; done) | (repeat (first | exact hp | apply List.mem_cons_of_mem | apply List.mem_append_right)) | (simp_all; done))))
              | refine KW.draw 0 (by decide +kernel) ?_
              | refine KW.drawU rfl (by decide +kernel) ?_
              | refine KD.zero ?_
              | refine KD.skip' rfl (by first | with_reducible rfl | decide) rfl rfl ?_
              | refine KO.skip' rfl (by first | with_reducible rfl | decide) rfl rfl ?_
              | refine KO.skip0' rfl (by first | with_reducible rfl | decide) rfl ?_
              | ((first | apply KO.val rfl rfl rfl ?kq ?_ | apply KO.valIn rfl rfl rfl ?kq ?_ | apply KD.val rfl rfl rfl ?kq ?_ | apply KD.valIn rfl rfl rfl ?kq ?_ | apply KDH.val0 rfl rfl rfl ?kq ?_ | apply KDH.val1 rfl rfl rfl ?kq ?_ | apply KDH.valIn0 rfl rfl rfl ?kq ?_ | apply KDH.valIn1 rfl rfl rfl ?kq ?_ | apply KDE.val rfl rfl rfl ?kq ?_ | apply KDE.valIn rfl rfl rfl ?kq ?_ | apply KDM.q2f rfl rfl rfl ?kq ?ksub ?_ | apply KDM.q2t rfl rfl rfl ?kq ?ksub ?_); (try (case ksub => (intro _ hp; first | exact hp | (cases hp; done) | (repeat (first | exact hp | apply List.mem_cons_of_mem | apply List.mem_append_right)) | (simp_all; done)))); (case kq => ((first | ((first | apply qt_add rfl rfl rfl ?hi ?om | apply qt_sub rfl rfl rfl ?hi ?om | apply qt_mul rfl rfl rfl ?hi ?om | apply qt_remN rfl rfl rfl ?hi ?om | apply qt_quoN rfl rfl rfl ?hi ?om | apply qt_addU rfl rfl rfl ?hi ?om | apply qt_subU rfl rfl rfl ?hi ?om | apply qt_mulU rfl rfl rfl ?hi ?om | apply qt_quoU rfl rfl rfl ?hi ?om | apply qt_convI rfl rfl rfl rfl ?hi ?om | apply qt_convU rfl rfl rfl rfl ?hi ?om | apply qt_indexAddr_arr rfl rfl rfl ?hi rfl rfl ?om | apply qt_indexAddr_slice rfl rfl rfl ?hi rfl rfl ?om | apply qt_sliceL rfl rfl rfl ?hi rfl rfl ?om | apply qt_sliceH rfl rfl rfl ?hi rfl rfl ?om | apply qt_sliceLH rfl rfl rfl rfl ?hi rfl rfl ?om | apply qt_sliceLHM rfl rfl rfl rfl rfl ?hi rfl rfl ?om | apply qt_sliceHM rfl rfl rfl rfl ?hi rfl rfl ?om); (case om => (intro hg; first | omega | (simp only [Bool.or_eq_false_iff, Bool.or_eq_true, Bool.and_eq_true, Bool.and_eq_false_iff, Bool.not_eq_true', Bool.not_eq_false', Bool.not_eq_true, Bool.not_eq_false, decide_eq_true_eq, decide_eq_false_iff_not, Bool.not_not, beq_iff_eq, bne_iff_ne, Bool.beq_eq_decide_eq] at hg; omega)))) | apply qt_ev rfl ?hi | ((first | apply qt_load1 rfl rfl ?hi rfl rfl ?hm ?hc | apply qt_loadN rfl rfl ?hi rfl rfl rfl ?hm ?hc); (case hm => repeat (first | exact List.Mem.head _ | apply List.Mem.tail _ | apply List.mem_append_right _)); (case hc => rfl)) | refine qt_callQ rfl rfl ?hi (fun hg => same_t _ _ (tkR R z) _ _ _ _ _ _ rfl rfl (SL.ofBlk (b := b10) (e := 5) (by simp) (by rw [by8_len]; omega)) (hS2.mono (fun _ hq => by cases hq)) (by omega)) | apply qt_pick_t rfl rfl (by first | with_reducible rfl | decide) rfl ?hi | apply qt_pick_f rfl rfl (by first | with_reducible rfl | decide) rfl ?hi | ((first | apply qt_pick_and rfl rfl rfl ?hi ?pj | apply qt_pick_or rfl rfl rfl ?hi ?pj); (case pj => (intro h h2; first | with_reducible exact h2 | with_reducible rfl | (simp [h2]; done) | (simp_all; done)))) | apply qt_build rfl rfl ?hi rfl | apply qt_eqs rfl rfl rfl ?hi rfl (Or.inl rfl) | apply qt_nes rfl rfl rfl ?hi rfl (Or.inl rfl) | ((first | apply qt_rem rfl rfl rfl ?hi ?om | apply qt_quo rfl rfl rfl ?hi ?om | apply qt_shr rfl rfl rfl ?hi ?om | apply qt_shl rfl rfl rfl ?hi ?om); (case om => (intro hg; first | omega | (simp only [Bool.or_eq_false_iff, Bool.or_eq_true, Bool.and_eq_true, Bool.and_eq_false_iff, Bool.not_eq_true', Bool.not_eq_false', Bool.not_eq_true, Bool.not_eq_false, decide_eq_true_eq, decide_eq_false_iff_not, Bool.not_not, beq_iff_eq, bne_iff_ne, Bool.beq_eq_decide_eq] at hg; omega))))); (case hi => (intro h; (repeat' (first | with_reducible exact alln | with_reducible refine allc ?_ ?_ | with_reducible refine andi ?_ ?_)); all_goals (first | with_reducible rfl | with_reducible exact h | with_reducible exact andl h | with_reducible exact andr h | with_reducible exact andl (andl h) | (simp only [h, Bool.and_self]; done) | (simp [h]; done) | (simp_all; done)))))))
              | (refine KO.box rfl rfl rfl rfl rfl rfl ?_; intro _ _)
              | (refine KO.alloc rfl rfl rfl rfl rfl rfl ?_; intro _ _)
              | (refine KO.buildSlice rfl rfl rfl rfl rfl rfl rfl rfl rfl rfl rfl rfl rfl rfl ?_; intro _ _)
              | ((first | apply KO.store (i := 0) rfl rfl rfl rfl rfl rfl rfl rfl ?hl rfl ?hw ?ho ?hs | apply KO.store (i := 1) rfl rfl rfl rfl rfl rfl rfl rfl ?hl rfl ?hw ?ho ?hs | apply KO.store (i := 2) rfl rfl rfl rfl rfl rfl rfl rfl ?hl rfl ?hw ?ho ?hs | apply KO.store (i := 3) rfl rfl rfl rfl rfl rfl rfl rfl ?hl rfl ?hw ?ho ?hs | apply KO.store (i := 4) rfl rfl rfl rfl rfl rfl rfl rfl ?hl rfl ?hw ?ho ?hs | apply KO.store (i := 5) rfl rfl rfl rfl rfl rfl rfl rfl ?hl rfl ?hw ?ho ?hs | apply KO.store (i := 6) rfl rfl rfl rfl rfl rfl rfl rfl ?hl rfl ?hw ?ho ?hs | apply KO.store (i := 7) rfl rfl rfl rfl rfl rfl rfl rfl ?hl rfl ?hw ?ho ?hs); (case hl => rfl); (case hw => rfl); (case ho => rfl); (case hs => rfl))
              | (refine KW.cond rfl ?_ ?_ <;> (intro hc; try simp only [Bool.or_eq_false_iff, Bool.or_eq_true, Bool.and_eq_true, Bool.and_eq_false_iff, Bool.not_eq_true', Bool.not_eq_false', Bool.not_eq_true, Bool.not_eq_false, decide_eq_true_eq, decide_eq_false_iff_not, Bool.not_not, beq_iff_eq, bne_iff_ne, Bool.beq_eq_decide_eq] at hc))
              | exact absurd trivial ‹¬True›
              | ((have hjn : (0 : Int) ≤ i ∧ (i : Int) < m := by omega); (obtain ⟨bl, ol, rfl, h1⟩ := hp.2 (by omega)); (obtain ⟨⟨X, sz⟩, hx⟩ : ∃ z, ls[i]? = some z := ⟨_, List.getElem?_eq_getElem (by omega)⟩); (obtain ⟨hX, hs1⟩ := hls _ (List.mem_of_getElem? hx)); clear hp)
              | ((first | apply KO.val (g := true) rfl rfl rfl | apply KD.val (g := true) rfl rfl rfl | apply KDE.val (g := true) rfl rfl rfl | apply KDE.val rfl rfl rfl | apply KDH.val0 (g := true) rfl rfl rfl | apply KDH.val1 (g := true) rfl rfl rfl | apply KO.val rfl rfl rfl | apply KD.val rfl rfl rfl | apply KDH.val0 rfl rfl rfl | apply KO.valIn rfl rfl rfl | apply KD.valIn rfl rfl rfl); (apply qt_loadN_cel rfl rfl ?hi rfl rfl rfl ?hl ?hc); (case hc => first | exact fun _ => ((celP h1 hx).1.mono (fun _ hq => by cases hq)) | exact fun _ => ((celP h1 hx).2.mono (fun _ hq => by cases hq)) | exact fun hg => ((celP h1 hx).1.mono (fun _ hq => by cases hq)) | exact fun hg => ((celP h1 hx).2.mono (fun _ hq => by cases hq))); (case hl => rfl); (case hi => (first | exact fun _ => rfl | (intro h; first | rfl | exact h | (simp [h]; done) | (simp_all; done)))))
              | ((first | apply KO.val (g := true) rfl rfl rfl | apply KD.val (g := true) rfl rfl rfl | apply KDE.val (g := true) rfl rfl rfl | apply KDE.val rfl rfl rfl | apply KDH.val0 (g := true) rfl rfl rfl | apply KDH.val1 (g := true) rfl rfl rfl | apply KO.val rfl rfl rfl | apply KD.val rfl rfl rfl | apply KDH.val0 rfl rfl rfl | apply KO.valIn rfl rfl rfl | apply KD.valIn rfl rfl rfl); (apply qt_load1_cel rfl rfl ?hi rfl rfl ?hc); (case hc => first | exact fun _ => ((celP h1 hx).1.mono (fun _ hq => by cases hq)) | exact fun _ => ((celP h1 hx).2.mono (fun _ hq => by cases hq)) | exact fun hg => ((celP h1 hx).1.mono (fun _ hq => by cases hq)) | exact fun hg => ((celP h1 hx).2.mono (fun _ hq => by cases hq))); (case hi => (first | exact fun _ => rfl | (intro h; first | rfl | exact h | (simp [h]; done) | (simp_all; done)))))
              | (exfalso; omega)
              | (exfalso; omega)
              | fail)
            refine At.loop_on ⟨i + 1, P ++ putB X z, u2, φw2, .slice po (P ++ putB X z).length co, φo2, tkR R z, p', c', pl2, cl2⟩ ⟨by dsimp only; omega, hQB, ?_, hu2, hv2, hst, by dsimp only; omega, hc', hS2l, hS', hp', hS2⟩ (by dsimp only; omega) ?_
            · exact hPB.append putB_byt
            · exact Le.permS (φ := [(b10, cl (by8 (tkR R z)) 5), (b9, cl (by8 (P ++ putB X z)) 5)]) (FLe.cons rfl (by dsimp only; rw [Int.natCast_add]; rfl) (FLe.cons rfl rfl (FLe.cons rfl rfl (FLe.cons rfl rfl (FLe.cons rfl rfl (FLe.cons rfl rfl (FLe.nil _))))))) (by classical exact List.perm_iff_count.2 (fun _ => by first | (simp only [List.count_append, List.count_cons, List.count_nil, List.append_assoc, List.cons_append, List.nil_append]; done) | (simp only [List.count_append, List.count_cons, List.count_nil, List.append_assoc, List.cons_append, List.nil_append]; omega)))
          · have hz : R.length < z := by have := of_decide_eq_true hq; omega
            rcases tk with ⟨t1, t2, t3, t4⟩ | ⟨t1, t2, t3, t4⟩
            · rw [t1, t3]
              repeat' (first
                | refine KW.seq ?_
                | refine KW.region ?_
                | refine KO.nil ?_
                | refine At.then_normal ?_
                | refine KW.skip ?_
                | refine KW.ret ?_
                | refine At.then_ret ?_
                | refine KW.block ?_
                | refine KW.exit ?_
                | refine At.block_normal ?_
                | refine At.block_ret ?_
                | refine At.loop_ret ?_
                | refine At.then_exit ?_
                | refine At.block_here rfl ?_
                | refine At.block_there rfl ?_
                | refine At.loop_exit ?_
                | refine At.cut_ret ?_
                | refine At.cutA_ret ?_
                | refine At.cutA_exit ?_
                | refine At.cut_exit ?_
                | (refine At.cut_same ?_; repeat' (first | exact FLe.nil _ | refine FLe.cons rfl rfl ?_))
                | refine KW.cond_t rfl (by first | with_reducible rfl | decide) ?_
                | refine KW.cond_f rfl (by first | with_reducible rfl | decide) ?_
                | refine KW.draw (id := 12) 10 (by decide +kernel) ?_
                | refine KW.drawE (id := 17) 10 5 (by decide +kernel) rfl ?_
                | refine KDH.mid2 ?_
                | refine KDH.mid3 ?_
                | refine KDH.done ?_
                | refine KDM.head0 ?_
                | refine KDM.head1 ?_
                | refine KDM.fin ?_
                | refine KDH.skip0' rfl (by first | with_reducible rfl | decide) rfl rfl ?_
                | refine KDH.skip1' rfl (by first | with_reducible rfl | decide) rfl rfl ?_
                | refine KDE.skip rfl rfl rfl ?_
                | ((first | refine KDM.eo2f rfl rfl rfl (eo_alloc rfl rfl rfl) ?_ | refine KDM.eo2t rfl rfl rfl (eo_alloc rfl rfl rfl) ?_); rintro _ _ ⟨_, _, rfl, rfl⟩; refine ⟨?sub, ?_⟩; (case sub => (intro _ hp; first | exact hp | (cases hp; done) | (repeat (first | exact hp | apply List.mem_cons_of_mem | apply List.mem_append_right)) | (simp_all; done))))
                | ((first | refine KDM.eo2f rfl rfl rfl (eo_box rfl rfl rfl) ?_ | refine KDM.eo2t rfl rfl rfl (eo_box rfl rfl rfl) ?_); rintro _ _ ⟨_, _, rfl, rfl⟩; refine ⟨?sub, ?_⟩; (case sub => (intro _ hp; first | exact hp | (cases hp; done) | (repeat (first | exact hp | apply List.mem_cons_of_mem | apply List.mem_append_right)) | (simp_all; done))))
                | ((first | refine KDM.eo2f rfl rfl rfl (eo_buildSlice rfl rfl rfl rfl rfl rfl rfl rfl rfl rfl rfl) ?_ | refine KDM.eo2t rfl rfl rfl (eo_buildSlice rfl rfl rfl rfl rfl rfl rfl rfl rfl rfl rfl) ?_); rintro _ _ ⟨_, _, rfl, rfl⟩; refine ⟨?sub, ?_⟩; (case sub => (intro _ hp; first | exact hp | (cases hp; done) | (repeat (first | exact hp | apply List.mem_cons_of_mem | apply List.mem_append_right)) | (simp_all; done))))
                | ((first | refine KDM.eo30 rfl rfl (eo_store (i := 0) rfl rfl rfl rfl rfl rfl rfl rfl rfl rfl rfl) ?_ | refine KDM.eo30 rfl rfl (eo_store (i := 1) rfl rfl rfl rfl rfl rfl rfl rfl rfl rfl rfl) ?_ | refine KDM.eo30 rfl rfl (eo_store (i := 2) rfl rfl rfl rfl rfl rfl rfl rfl rfl rfl rfl) ?_ | refine KDM.eo30 rfl rfl (eo_store (i := 3) rfl rfl rfl rfl rfl rfl rfl rfl rfl rfl rfl) ?_ | refine KDM.eo30 rfl rfl (eo_store (i := 4) rfl rfl rfl rfl rfl rfl rfl rfl rfl rfl rfl) ?_ | refine KDM.eo30 rfl rfl (eo_store (i := 5) rfl rfl rfl rfl rfl rfl rfl rfl rfl rfl rfl) ?_ | refine KDM.eo30 rfl rfl (eo_store (i := 6) rfl rfl rfl rfl rfl rfl rfl rfl rfl rfl rfl) ?_ | refine KDM.eo30 rfl rfl (eo_store (i := 7) rfl rfl rfl rfl rfl rfl rfl rfl rfl rfl rfl) ?_); rintro _ _ rfl; refine ⟨?sub, ?_⟩; (case sub => (intro _ hp; first | exact hp | (cases hp; done) | (repeat (first | exact hp | apply List.mem_cons_of_mem | apply List.mem_append_right)) | (simp_all; done))))
                | refine KW.draw 0 (by decide +kernel) ?_
                | refine KW.drawU rfl (by decide +kernel) ?_
                | refine KD.zero ?_
                | refine KD.skip' rfl (by first | with_reducible rfl | decide) rfl rfl ?_
                | refine KO.skip' rfl (by first | with_reducible rfl | decide) rfl rfl ?_
                | refine KO.skip0' rfl (by first | with_reducible rfl | decide) rfl ?_
                | ((first | apply KO.val rfl rfl rfl ?kq ?_ | apply KO.valIn rfl rfl rfl ?kq ?_ | apply KD.val rfl rfl rfl ?kq ?_ | apply KD.valIn rfl rfl rfl ?kq ?_ | apply KDH.val0 rfl rfl rfl ?kq ?_ | apply KDH.val1 rfl rfl rfl ?kq ?_ | apply KDH.valIn0 rfl rfl rfl ?kq ?_ | apply KDH.valIn1 rfl rfl rfl ?kq ?_ | apply KDE.val rfl rfl rfl ?kq ?_ | apply KDE.valIn rfl rfl rfl ?kq ?_ | apply KDM.q2f rfl rfl rfl ?kq ?ksub ?_ | apply KDM.q2t rfl rfl rfl ?kq ?ksub ?_); (try (case ksub => (intro _ hp; first | exact hp | (cases hp; done) | (repeat (first | exact hp | apply List.mem_cons_of_mem | apply List.mem_append_right)) | (simp_all; done)))); (case kq => ((first | ((first | apply qt_add rfl rfl rfl ?hi ?om | apply qt_sub rfl rfl rfl ?hi ?om | apply qt_mul rfl rfl rfl ?hi ?om | apply qt_remN rfl rfl rfl ?hi ?om | apply qt_quoN rfl rfl rfl ?hi ?om | apply qt_addU rfl rfl rfl ?hi ?om | apply qt_subU rfl rfl rfl ?hi ?om | apply qt_mulU rfl rfl rfl ?hi ?om | apply qt_quoU rfl rfl rfl ?hi ?om | apply qt_convI rfl rfl rfl rfl ?hi ?om | apply qt_convU rfl rfl rfl rfl ?hi ?om | apply qt_indexAddr_arr rfl rfl rfl ?hi rfl rfl ?om | apply qt_indexAddr_slice rfl rfl rfl ?hi rfl rfl ?om | apply qt_sliceL rfl rfl rfl ?hi rfl rfl ?om | apply qt_sliceH rfl rfl rfl ?hi rfl rfl ?om | apply qt_sliceLH rfl rfl rfl rfl ?hi rfl rfl ?om | apply qt_sliceLHM rfl rfl rfl rfl rfl ?hi rfl rfl ?om | apply qt_sliceHM rfl rfl rfl rfl ?hi rfl rfl ?om); (case om => (intro hg; first | omega | (simp only [Bool.or_eq_false_iff, Bool.or_eq_true, Bool.and_eq_true, Bool.and_eq_false_iff, Bool.not_eq_true', Bool.not_eq_false', Bool.not_eq_true, Bool.not_eq_false, decide_eq_true_eq, decide_eq_false_iff_not, Bool.not_not, beq_iff_eq, bne_iff_ne, Bool.beq_eq_decide_eq] at hg; omega)))) | apply qt_ev rfl ?hi | ((first | apply qt_load1 rfl rfl ?hi rfl rfl ?hm ?hc | apply qt_loadN rfl rfl ?hi rfl rfl rfl ?hm ?hc); (case hm => repeat (first | exact List.Mem.head _ | apply List.Mem.tail _ | apply List.mem_append_right _)); (case hc => rfl)) | apply qt_pick_t rfl rfl (by first | with_reducible rfl | decide) rfl ?hi | apply qt_pick_f rfl rfl (by first | with_reducible rfl | decide) rfl ?hi | ((first | apply qt_pick_and rfl rfl rfl ?hi ?pj | apply qt_pick_or rfl rfl rfl ?hi ?pj); (case pj => (intro h h2; first | with_reducible exact h2 | with_reducible rfl | (simp [h2]; done) | (simp_all; done)))) | apply qt_build rfl rfl ?hi rfl | apply qt_eqs rfl rfl rfl ?hi rfl (Or.inl rfl) | apply qt_nes rfl rfl rfl ?hi rfl (Or.inl rfl) | ((first | apply qt_rem rfl rfl rfl ?hi ?om | apply qt_quo rfl rfl rfl ?hi ?om | apply qt_shr rfl rfl rfl ?hi ?om | apply qt_shl rfl rfl rfl ?hi ?om); (case om => (intro hg; first | omega | (simp only [Bool.or_eq_false_iff, Bool.or_eq_true, Bool.and_eq_true, Bool.and_eq_false_iff, Bool.not_eq_true', Bool.not_eq_false', Bool.not_eq_true, Bool.not_eq_false, decide_eq_true_eq, decide_eq_false_iff_not, Bool.not_not, beq_iff_eq, bne_iff_ne, Bool.beq_eq_decide_eq] at hg; omega))))); (case hi => (intro h; (repeat' (first | with_reducible exact alln | with_reducible refine allc ?_ ?_ | with_reducible refine andi ?_ ?_)); all_goals (first | with_reducible rfl | with_reducible exact h | with_reducible exact andl h | with_reducible exact andr h | with_reducible exact andl (andl h) | (simp only [h, Bool.and_self]; done) | (simp [h]; done) | (simp_all; done)))))))
                | (refine KO.box rfl rfl rfl rfl rfl rfl ?_; intro _ _)
                | (refine KO.alloc rfl rfl rfl rfl rfl rfl ?_; intro _ _)
                | (refine KO.buildSlice rfl rfl rfl rfl rfl rfl rfl rfl rfl rfl rfl rfl rfl rfl ?_; intro _ _)
                | ((first | apply KO.store (i := 0) rfl rfl rfl rfl rfl rfl rfl rfl ?hl rfl ?hw ?ho ?hs | apply KO.store (i := 1) rfl rfl rfl rfl rfl rfl rfl rfl ?hl rfl ?hw ?ho ?hs | apply KO.store (i := 2) rfl rfl rfl rfl rfl rfl rfl rfl ?hl rfl ?hw ?ho ?hs | apply KO.store (i := 3) rfl rfl rfl rfl rfl rfl rfl rfl ?hl rfl ?hw ?ho ?hs | apply KO.store (i := 4) rfl rfl rfl rfl rfl rfl rfl rfl ?hl rfl ?hw ?ho ?hs | apply KO.store (i := 5) rfl rfl rfl rfl rfl rfl rfl rfl ?hl rfl ?hw ?ho ?hs | apply KO.store (i := 6) rfl rfl rfl rfl rfl rfl rfl rfl ?hl rfl ?hw ?ho ?hs | apply KO.store (i := 7) rfl rfl rfl rfl rfl rfl rfl rfl ?hl rfl ?hw ?ho ?hs); (case hl => rfl); (case hw => rfl); (case ho => rfl); (case hs => rfl))
                | (refine KW.cond rfl ?_ ?_ <;> (intro hc; try simp only [Bool.or_eq_false_iff, Bool.or_eq_true, Bool.and_eq_true, Bool.and_eq_false_iff, Bool.not_eq_true', Bool.not_eq_false', Bool.not_eq_true, Bool.not_eq_false, decide_eq_true_eq, decide_eq_false_iff_not, Bool.not_not, beq_iff_eq, bne_iff_ne, Bool.beq_eq_decide_eq] at hc))
                | exact absurd trivial ‹¬True›
                | ((have hjn : (0 : Int) ≤ i ∧ (i : Int) < m := by omega); (obtain ⟨bl, ol, rfl, h1⟩ := hp.2 (by omega)); (obtain ⟨⟨X, sz⟩, hx⟩ : ∃ z, ls[i]? = some z := ⟨_, List.getElem?_eq_getElem (by omega)⟩); (obtain ⟨hX, hs1⟩ := hls _ (List.mem_of_getElem? hx)); clear hp)
                | ((first | apply KO.val (g := true) rfl rfl rfl | apply KD.val (g := true) rfl rfl rfl | apply KDE.val (g := true) rfl rfl rfl | apply KDE.val rfl rfl rfl | apply KDH.val0 (g := true) rfl rfl rfl | apply KDH.val1 (g := true) rfl rfl rfl | apply KO.val rfl rfl rfl | apply KD.val rfl rfl rfl | apply KDH.val0 rfl rfl rfl | apply KO.valIn rfl rfl rfl | apply KD.valIn rfl rfl rfl); (apply qt_loadN_cel rfl rfl ?hi rfl rfl rfl ?hl ?hc); (case hc => first | exact fun _ => ((celP h1 hx).1.mono (fun _ hq => by cases hq)) | exact fun _ => ((celP h1 hx).2.mono (fun _ hq => by cases hq)) | exact fun hg => ((celP h1 hx).1.mono (fun _ hq => by cases hq)) | exact fun hg => ((celP h1 hx).2.mono (fun _ hq => by cases hq))); (case hl => rfl); (case hi => (first | exact fun _ => rfl | (intro h; first | rfl | exact h | (simp [h]; done) | (simp_all; done)))))
                | ((first | apply KO.val (g := true) rfl rfl rfl | apply KD.val (g := true) rfl rfl rfl | apply KDE.val (g := true) rfl rfl rfl | apply KDE.val rfl rfl rfl | apply KDH.val0 (g := true) rfl rfl rfl | apply KDH.val1 (g := true) rfl rfl rfl | apply KO.val rfl rfl rfl | apply KD.val rfl rfl rfl | apply KDH.val0 rfl rfl rfl | apply KO.valIn rfl rfl rfl | apply KD.valIn rfl rfl rfl); (apply qt_load1_cel rfl rfl ?hi rfl rfl ?hc); (case hc => first | exact fun _ => ((celP h1 hx).1.mono (fun _ hq => by cases hq)) | exact fun _ => ((celP h1 hx).2.mono (fun _ hq => by cases hq)) | exact fun hg => ((celP h1 hx).1.mono (fun _ hq => by cases hq)) | exact fun hg => ((celP h1 hx).2.mono (fun _ hq => by cases hq))); (case hi => (first | exact fun _ => rfl | (intro h; first | rfl | exact h | (simp [h]; done) | (simp_all; done)))))
                | (exfalso; omega)
                | (exfalso; omega)
                | fail)
              refine At.cutA_here (pl, cl') ?_ ?_
              · dsimp only; rw [t4]; exact ⟨hSl, hRl⟩
              · exact Le.perm (FLe.cons rfl rfl (FLe.cons rfl (by dsimp only; rw [t4]) (FLe.cons rfl rfl (FLe.cons rfl rfl (FLe.cons rfl rfl (FLe.cons rfl rfl (FLe.nil _))))))) (List.Perm.refl _)
            · omega
          · have hz : z ≤ R.length := by have := of_decide_eq_false hq; omega
            rcases tk with ⟨t1, t2, t3, t4⟩ | ⟨t1, t2, t3, t4⟩
            · omega
            · rw [t1, t3]
              repeat' (first
                | refine KW.seq ?_
                | refine KW.region ?_
                | refine KO.nil ?_
                | refine At.then_normal ?_
                | refine KW.skip ?_
                | refine KW.ret ?_
                | refine At.then_ret ?_
                | refine KW.block ?_
                | refine KW.exit ?_
                | refine At.block_normal ?_
                | refine At.block_ret ?_
                | refine At.loop_ret ?_
                | refine At.then_exit ?_
                | refine At.block_here rfl ?_
                | refine At.block_there rfl ?_
                | refine At.loop_exit ?_
                | refine At.cut_ret ?_
                | refine At.cutA_ret ?_
                | refine At.cutA_exit ?_
                | refine At.cut_exit ?_
                | (refine At.cut_same ?_; repeat' (first | exact FLe.nil _ | refine FLe.cons rfl rfl ?_))
                | refine KW.cond_t rfl (by first | with_reducible rfl | decide) ?_
                | refine KW.cond_f rfl (by first | with_reducible rfl | decide) ?_
                | refine KW.draw (id := 12) 10 (by decide +kernel) ?_
                | refine KW.drawE (id := 17) 10 5 (by decide +kernel) rfl ?_
                | refine KDH.mid2 ?_
                | refine KDH.mid3 ?_
                | refine KDH.done ?_
                | refine KDM.head0 ?_
                | refine KDM.head1 ?_
                | refine KDM.fin ?_
                | refine KDH.skip0' rfl (by first | with_reducible rfl | decide) rfl rfl ?_
                | refine KDH.skip1' rfl (by first | with_reducible rfl | decide) rfl rfl ?_
                | refine KDE.skip rfl rfl rfl ?_
                | ((first | refine KDM.eo2f rfl rfl rfl (eo_alloc rfl rfl rfl) ?_ | refine KDM.eo2t rfl rfl rfl (eo_alloc rfl rfl rfl) ?_); rintro _ _ ⟨_, _, rfl, rfl⟩; refine ⟨?sub, ?_⟩; (case sub => (intro _ hp; first | exact hp | (cases hp; done) | (repeat (first | exact hp | apply List.mem_cons_of_mem | apply List.mem_append_right)) | (simp_all; done))))
                | ((first | refine KDM.eo2f rfl rfl rfl (eo_box rfl rfl rfl) ?_ | refine KDM.eo2t rfl rfl rfl (eo_box rfl rfl rfl) ?_); rintro _ _ ⟨_, _, rfl, rfl⟩; refine ⟨?sub, ?_⟩; (case sub => (intro _ hp; first | exact hp | (cases hp; done) | (repeat (first | exact hp | apply List.mem_cons_of_mem | apply List.mem_append_right)) | (simp_all; done))))
                | ((first | refine KDM.eo2f rfl rfl rfl (eo_buildSlice rfl rfl rfl rfl rfl rfl rfl rfl rfl rfl rfl) ?_ | refine KDM.eo2t rfl rfl rfl (eo_buildSlice rfl rfl rfl rfl rfl rfl rfl rfl rfl rfl rfl) ?_); rintro _ _ ⟨_, _, rfl, rfl⟩; refine ⟨?sub, ?_⟩; (case sub => (intro _ hp; first | exact hp | (cases hp; done) | (repeat (first | exact hp | apply List.mem_cons_of_mem | apply List.mem_append_right)) | (simp_all; done))))
                | ((first | refine KDM.eo30 rfl rfl (eo_store (i := 0) rfl rfl rfl rfl rfl rfl rfl rfl rfl rfl rfl) ?_ | refine KDM.eo30 rfl rfl (eo_store (i := 1) rfl rfl rfl rfl rfl rfl rfl rfl rfl rfl rfl) ?_ | refine KDM.eo30 rfl rfl (eo_store (i := 2) rfl rfl rfl rfl rfl rfl rfl rfl rfl rfl rfl) ?_ | refine KDM.eo30 rfl rfl (eo_store (i := 3) rfl rfl rfl rfl rfl rfl rfl rfl rfl rfl rfl) ?_ | refine KDM.eo30 rfl rfl (eo_store (i := 4) rfl rfl rfl rfl rfl rfl rfl rfl rfl rfl rfl) ?_ | refine KDM.eo30 rfl rfl (eo_store (i := 5) rfl rfl rfl rfl rfl rfl rfl rfl rfl rfl rfl) ?_ | refine KDM.eo30 rfl rfl (eo_store (i := 6) rfl rfl rfl rfl rfl rfl rfl rfl rfl rfl rfl) ?_ | refine KDM.eo30 rfl rfl (eo_store (i := 7) rfl rfl rfl rfl rfl rfl rfl rfl rfl rfl rfl) ?_); rintro _ _ rfl; refine ⟨?sub, ?_⟩; (case sub => (intro _ hp; first | exact hp | (cases hp; done) | (repeat (first | exact hp | apply List.mem_cons_of_mem | apply List.mem_append_right)) | (simp_all; done))))
                | refine KW.draw 0 (by decide +kernel) ?_
                | refine KW.drawU rfl (by decide +kernel) ?_
                | refine KD.zero ?_
                | refine KD.skip' rfl (by first | with_reducible rfl | decide) rfl rfl ?_
                | refine KO.skip' rfl (by first | with_reducible rfl | decide) rfl rfl ?_
                | refine KO.skip0' rfl (by first | with_reducible rfl | decide) rfl ?_
                | ((first | apply KO.val rfl rfl rfl ?kq ?_ | apply KO.valIn rfl rfl rfl ?kq ?_ | apply KD.val rfl rfl rfl ?kq ?_ | apply KD.valIn rfl rfl rfl ?kq ?_ | apply KDH.val0 rfl rfl rfl ?kq ?_ | apply KDH.val1 rfl rfl rfl ?kq ?_ | apply KDH.valIn0 rfl rfl rfl ?kq ?_ | apply KDH.valIn1 rfl rfl rfl ?kq ?_ | apply KDE.val rfl rfl rfl ?kq ?_ | apply KDE.valIn rfl rfl rfl ?kq ?_ | apply KDM.q2f rfl rfl rfl ?kq ?ksub ?_ | apply KDM.q2t rfl rfl rfl ?kq ?ksub ?_); (try (case ksub => (intro _ hp; first | exact hp | (cases hp; done) | (repeat (first | exact hp | apply List.mem_cons_of_mem | apply List.mem_append_right)) | (simp_all; done)))); (case kq => ((first | ((first | apply qt_add rfl rfl rfl ?hi ?om | apply qt_sub rfl rfl rfl ?hi ?om | apply qt_mul rfl rfl rfl ?hi ?om | apply qt_remN rfl rfl rfl ?hi ?om | apply qt_quoN rfl rfl rfl ?hi ?om | apply qt_addU rfl rfl rfl ?hi ?om | apply qt_subU rfl rfl rfl ?hi ?om | apply qt_mulU rfl rfl rfl ?hi ?om | apply qt_quoU rfl rfl rfl ?hi ?om | apply qt_convI rfl rfl rfl rfl ?hi ?om | apply qt_convU rfl rfl rfl rfl ?hi ?om | apply qt_indexAddr_arr rfl rfl rfl ?hi rfl rfl ?om | apply qt_indexAddr_slice rfl rfl rfl ?hi rfl rfl ?om | apply qt_sliceL rfl rfl rfl ?hi rfl rfl ?om | apply qt_sliceH rfl rfl rfl ?hi rfl rfl ?om | apply qt_sliceLH rfl rfl rfl rfl ?hi rfl rfl ?om | apply qt_sliceLHM rfl rfl rfl rfl rfl ?hi rfl rfl ?om | apply qt_sliceHM rfl rfl rfl rfl ?hi rfl rfl ?om); (case om => (intro hg; first | omega | (simp only [Bool.or_eq_false_iff, Bool.or_eq_true, Bool.and_eq_true, Bool.and_eq_false_iff, Bool.not_eq_true', Bool.not_eq_false', Bool.not_eq_true, Bool.not_eq_false, decide_eq_true_eq, decide_eq_false_iff_not, Bool.not_not, beq_iff_eq, bne_iff_ne, Bool.beq_eq_decide_eq] at hg; omega)))) | apply qt_ev rfl ?hi | ((first | apply qt_load1 rfl rfl ?hi rfl rfl ?hm ?hc | apply qt_loadN rfl rfl ?hi rfl rfl rfl ?hm ?hc); (case hm => repeat (first | exact List.Mem.head _ | apply List.Mem.tail _ | apply List.mem_append_right _)); (case hc => rfl)) | refine qt_callQ rfl rfl ?hi (fun hg => rNumber_p _ _ (R.take z) _ _ _ (by rw [List.length_take]; omega) (hRB.take z) ((hv4 (by omega)).mono (fun _ hq => by cases hq)) (by omega)) | apply qt_pick_t rfl rfl (by first | with_reducible rfl | decide) rfl ?hi | apply qt_pick_f rfl rfl (by first | with_reducible rfl | decide) rfl ?hi | ((first | apply qt_pick_and rfl rfl rfl ?hi ?pj | apply qt_pick_or rfl rfl rfl ?hi ?pj); (case pj => (intro h h2; first | with_reducible exact h2 | with_reducible rfl | (simp [h2]; done) | (simp_all; done)))) | apply qt_build rfl rfl ?hi rfl | apply qt_eqs rfl rfl rfl ?hi rfl (Or.inl rfl) | apply qt_nes rfl rfl rfl ?hi rfl (Or.inl rfl) | ((first | apply qt_rem rfl rfl rfl ?hi ?om | apply qt_quo rfl rfl rfl ?hi ?om | apply qt_shr rfl rfl rfl ?hi ?om | apply qt_shl rfl rfl rfl ?hi ?om); (case om => (intro hg; first | omega | (simp only [Bool.or_eq_false_iff, Bool.or_eq_true, Bool.and_eq_true, Bool.and_eq_false_iff, Bool.not_eq_true', Bool.not_eq_false', Bool.not_eq_true, Bool.not_eq_false, decide_eq_true_eq, decide_eq_false_iff_not, Bool.not_not, beq_iff_eq, bne_iff_ne, Bool.beq_eq_decide_eq] at hg; omega))))); (case hi => (intro h; (repeat' (first | with_reducible exact alln | with_reducible refine allc ?_ ?_ | with_reducible refine andi ?_ ?_)); all_goals (first | with_reducible rfl | with_reducible exact h | with_reducible exact andl h | with_reducible exact andr h | with_reducible exact andl (andl h) | (simp only [h, Bool.and_self]; done) | (simp [h]; done) | (simp_all; done)))))))
                | (refine KO.box rfl rfl rfl rfl rfl rfl ?_; intro _ _)
                | (refine KO.alloc rfl rfl rfl rfl rfl rfl ?_; intro _ _)
                | (refine KO.buildSlice rfl rfl rfl rfl rfl rfl rfl rfl rfl rfl rfl rfl rfl rfl ?_; intro _ _)
                | ((first | apply KO.store (i := 0) rfl rfl rfl rfl rfl rfl rfl rfl ?hl rfl ?hw ?ho ?hs | apply KO.store (i := 1) rfl rfl rfl rfl rfl rfl rfl rfl ?hl rfl ?hw ?ho ?hs | apply KO.store (i := 2) rfl rfl rfl rfl rfl rfl rfl rfl ?hl rfl ?hw ?ho ?hs | apply KO.store (i := 3) rfl rfl rfl rfl rfl rfl rfl rfl ?hl rfl ?hw ?ho ?hs | apply KO.store (i := 4) rfl rfl rfl rfl rfl rfl rfl rfl ?hl rfl ?hw ?ho ?hs | apply KO.store (i := 5) rfl rfl rfl rfl rfl rfl rfl rfl ?hl rfl ?hw ?ho ?hs | apply KO.store (i := 6) rfl rfl rfl rfl rfl rfl rfl rfl ?hl rfl ?hw ?ho ?hs | apply KO.store (i := 7) rfl rfl rfl rfl rfl rfl rfl rfl ?hl rfl ?hw ?ho ?hs); (case hl => rfl); (case hw => rfl); (case ho => rfl); (case hs => rfl))
                | (refine KW.cond rfl ?_ ?_ <;> (intro hc; try simp only [Bool.or_eq_false_iff, Bool.or_eq_true, Bool.and_eq_true, Bool.and_eq_false_iff, Bool.not_eq_true', Bool.not_eq_false', Bool.not_eq_true, Bool.not_eq_false, decide_eq_true_eq, decide_eq_false_iff_not, Bool.not_not, beq_iff_eq, bne_iff_ne, Bool.beq_eq_decide_eq] at hc))
                | exact absurd trivial ‹¬True›
                | ((have hjn : (0 : Int) ≤ i ∧ (i : Int) < m := by omega); (obtain ⟨bl, ol, rfl, h1⟩ := hp.2 (by omega)); (obtain ⟨⟨X, sz⟩, hx⟩ : ∃ z, ls[i]? = some z := ⟨_, List.getElem?_eq_getElem (by omega)⟩); (obtain ⟨hX, hs1⟩ := hls _ (List.mem_of_getElem? hx)); clear hp)
                | ((first | apply KO.val (g := true) rfl rfl rfl | apply KD.val (g := true) rfl rfl rfl | apply KDE.val (g := true) rfl rfl rfl | apply KDE.val rfl rfl rfl | apply KDH.val0 (g := true) rfl rfl rfl | apply KDH.val1 (g := true) rfl rfl rfl | apply KO.val rfl rfl rfl | apply KD.val rfl rfl rfl | apply KDH.val0 rfl rfl rfl | apply KO.valIn rfl rfl rfl | apply KD.valIn rfl rfl rfl); (apply qt_loadN_cel rfl rfl ?hi rfl rfl rfl ?hl ?hc); (case hc => first | exact fun _ => ((celP h1 hx).1.mono (fun _ hq => by cases hq)) | exact fun _ => ((celP h1 hx).2.mono (fun _ hq => by cases hq)) | exact fun hg => ((celP h1 hx).1.mono (fun _ hq => by cases hq)) | exact fun hg => ((celP h1 hx).2.mono (fun _ hq => by cases hq))); (case hl => rfl); (case hi => (first | exact fun _ => rfl | (intro h; first | rfl | exact h | (simp [h]; done) | (simp_all; done)))))
                | ((first | apply KO.val (g := true) rfl rfl rfl | apply KD.val (g := true) rfl rfl rfl | apply KDE.val (g := true) rfl rfl rfl | apply KDE.val rfl rfl rfl | apply KDH.val0 (g := true) rfl rfl rfl | apply KDH.val1 (g := true) rfl rfl rfl | apply KO.val rfl rfl rfl | apply KD.val rfl rfl rfl | apply KDH.val0 rfl rfl rfl | apply KO.valIn rfl rfl rfl | apply KD.valIn rfl rfl rfl); (apply qt_load1_cel rfl rfl ?hi rfl rfl ?hc); (case hc => first | exact fun _ => ((celP h1 hx).1.mono (fun _ hq => by cases hq)) | exact fun _ => ((celP h1 hx).2.mono (fun _ hq => by cases hq)) | exact fun hg => ((celP h1 hx).1.mono (fun _ hq => by cases hq)) | exact fun hg => ((celP h1 hx).2.mono (fun _ hq => by cases hq))); (case hi => (first | exact fun _ => rfl | (intro h; first | rfl | exact h | (simp [h]; done) | (simp_all; done)))))
                | (exfalso; omega)
                | (exfalso; omega)
                | fail)
              · have hAdv : SL E.β [] 1 (R.length - z) (by8 (R.drop z)) (adv 1 pl cl' z) := by
                  have := hSl.adv (l := z) (h := R.length) (c := cl') (by omega) (by omega) (by omega)
                  have e2 : (List.drop (z * 1) (by8 R)).take ((R.length - z) * 1) = by8 (R.drop z) := by
                    rw [Nat.mul_one, Nat.mul_one, List.take_of_length_le (by rw [List.length_drop, by8_len]; omega), by8_drop]
                  rw [e2] at this
                  exact this
                refine At.cutA_here (adv 1 pl cl' z, cl' - z) ?_ ?_
                · dsimp only; rw [t4, List.length_drop]; exact ⟨hAdv, by omega⟩
                · exact Le.perm (FLe.cons rfl rfl (FLe.cons rfl (by dsimp only; rw [t4, List.length_drop]; rfl) (FLe.cons rfl rfl (FLe.cons rfl rfl (FLe.cons rfl rfl (FLe.cons rfl rfl (FLe.nil _))))))) (List.Perm.refl _)
        · have e7 : putE X z = 0 := of_decide_eq_true hq
          have e8 : putB X z = bes X z z := by simp [putB, e7]
          obtain ⟨po, co, rfl⟩ := ho.len
          repeat' (first
            | refine KW.seq ?_
            | refine KW.region ?_
            | refine KO.nil ?_
            | refine At.then_normal ?_
            | refine KW.skip ?_
            | refine KW.ret ?_
            | refine At.then_ret ?_
            | refine KW.block ?_
            | refine KW.exit ?_
            | refine At.block_normal ?_
            | refine At.block_ret ?_
            | refine At.loop_ret ?_
            | refine At.then_exit ?_
            | refine At.block_here rfl ?_
            | refine At.block_there rfl ?_
            | refine At.loop_exit ?_
            | refine At.cut_ret ?_
            | refine At.cutA_ret ?_
            | refine At.cutA_exit ?_
            | refine At.cut_exit ?_
            | (refine At.cut_same ?_; repeat' (first | exact FLe.nil _ | refine FLe.cons rfl rfl ?_))
            | refine KW.cond_t rfl (by first | with_reducible rfl | decide) ?_
            | refine KW.cond_f rfl (by first | with_reducible rfl | decide) ?_
            | refine KW.draw (id := 12) 10 (by decide +kernel) ?_
            | refine KW.drawE (id := 17) 10 5 (by decide +kernel) rfl ?_
            | refine KDH.mid2 ?_
            | refine KDH.mid3 ?_
            | refine KDH.done ?_
            | refine KDM.head0 ?_
            | refine KDM.head1 ?_
            | refine KDM.fin ?_
            | refine KDH.skip0' rfl (by first | with_reducible rfl | decide) rfl rfl ?_
            | refine KDH.skip1' rfl (by first | with_reducible rfl | decide) rfl rfl ?_
            | refine KDE.skip rfl rfl rfl ?_
            | ((first | refine KDM.eo2f rfl rfl rfl (eo_alloc rfl rfl rfl) ?_ | refine KDM.eo2t rfl rfl rfl (eo_alloc rfl rfl rfl) ?_); rintro _ _ ⟨_, _, rfl, rfl⟩; refine ⟨?sub, ?_⟩; (case sub => (intro _ hp; first | exact hp | (cases hp; done) | (repeat (first | exact hp | apply List.mem_cons_of_mem | apply List.mem_append_right)) | (simp_all; done))))
            | ((first | refine KDM.eo2f rfl rfl rfl (eo_box rfl rfl rfl) ?_ | refine KDM.eo2t rfl rfl rfl (eo_box rfl rfl rfl) ?_); rintro _ _ ⟨_, _, rfl, rfl⟩; refine ⟨?sub, ?_⟩; (case sub => (intro _ hp; first | exact hp | (cases hp; done) | (repeat (first | exact hp | apply List.mem_cons_of_mem | apply List.mem_append_right)) | (simp_all; done))))
            | ((first | refine KDM.eo2f rfl rfl rfl (eo_buildSlice rfl rfl rfl rfl rfl rfl rfl rfl rfl rfl rfl) ?_ | refine KDM.eo2t rfl rfl rfl (eo_buildSlice rfl rfl rfl rfl rfl rfl rfl rfl rfl rfl rfl) ?_); rintro _ _ ⟨_, _, rfl, rfl⟩; refine ⟨?sub, ?_⟩; (case sub => (intro _ hp; first | exact hp | (cases hp; done) | (repeat (first | exact hp | apply List.mem_cons_of_mem | apply List.mem_append_right)) | (simp_all; done))))
            | ((first | refine KDM.eo30 rfl rfl (eo_store (i := 0) rfl rfl rfl rfl rfl rfl rfl rfl rfl rfl rfl) ?_ | refine KDM.eo30 rfl rfl (eo_store (i := 1) rfl rfl rfl rfl rfl rfl rfl rfl rfl rfl rfl) ?_ | refine KDM.eo30 rfl rfl (eo_store (i := 2) rfl rfl rfl rfl rfl rfl rfl rfl rfl rfl rfl) ?_ | refine KDM.eo30 rfl rfl (eo_store (i := 3) rfl rfl rfl rfl rfl rfl rfl rfl rfl rfl rfl) ?_ | refine KDM.eo30 rfl rfl (eo_store (i := 4) rfl rfl rfl rfl rfl rfl rfl rfl rfl rfl rfl) ?_ | refine KDM.eo30 rfl rfl (eo_store (i := 5) rfl rfl rfl rfl rfl rfl rfl rfl rfl rfl rfl) ?_ | refine KDM.eo30 rfl rfl (eo_store (i := 6) rfl rfl rfl rfl rfl rfl rfl rfl rfl rfl rfl) ?_ | refine KDM.eo30 rfl rfl (eo_store (i := 7) rfl rfl rfl rfl rfl rfl rfl rfl rfl rfl rfl) ?_); rintro _ _ rfl; refine ⟨?sub, ?_⟩; (case sub => (intro _ hp; first | exact hp | (cases hp; done) | (repeat (first | exact hp | apply List.mem_cons_of_mem | apply List.mem_append_right)) | (simp_all; done))))
            | refine KW.draw 0 (by decide +kernel) ?_
            | refine KW.drawU rfl (by decide +kernel) ?_
            | refine KD.zero ?_
            | refine KD.skip' rfl (by first | with_reducible rfl | decide) rfl rfl ?_
            | refine KO.skip' rfl (by first | with_reducible rfl | decide) rfl rfl ?_
            | refine KO.skip0' rfl (by first | with_reducible rfl | decide) rfl ?_
            | ((first | apply KO.val rfl rfl rfl ?kq ?_ | apply KO.valIn rfl rfl rfl ?kq ?_ | apply KD.val rfl rfl rfl ?kq ?_ | apply KD.valIn rfl rfl rfl ?kq ?_ | apply KDH.val0 rfl rfl rfl ?kq ?_ | apply KDH.val1 rfl rfl rfl ?kq ?_ | apply KDH.valIn0 rfl rfl rfl ?kq ?_ | apply KDH.valIn1 rfl rfl rfl ?kq ?_ | apply KDE.val rfl rfl rfl ?kq ?_ | apply KDE.valIn rfl rfl rfl ?kq ?_ | apply KDM.q2f rfl rfl rfl ?kq ?ksub ?_ | apply KDM.q2t rfl rfl rfl ?kq ?ksub ?_); (try (case ksub => (intro _ hp; first | exact hp | (cases hp; done) | (repeat (first | exact hp | apply List.mem_cons_of_mem | apply List.mem_append_right)) | (simp_all; done)))); (case kq => ((first | ((first | apply qt_add rfl rfl rfl ?hi ?om | apply qt_sub rfl rfl rfl ?hi ?om | apply qt_mul rfl rfl rfl ?hi ?om | apply qt_remN rfl rfl rfl ?hi ?om | apply qt_quoN rfl rfl rfl ?hi ?om | apply qt_addU rfl rfl rfl ?hi ?om | apply qt_subU rfl rfl rfl ?hi ?om | apply qt_mulU rfl rfl rfl ?hi ?om | apply qt_quoU rfl rfl rfl ?hi ?om | apply qt_convI rfl rfl rfl rfl ?hi ?om | apply qt_convU rfl rfl rfl rfl ?hi ?om | apply qt_indexAddr_arr rfl rfl rfl ?hi rfl rfl ?om | apply qt_indexAddr_slice rfl rfl rfl ?hi rfl rfl ?om | apply qt_sliceL rfl rfl rfl ?hi rfl rfl ?om | apply qt_sliceH rfl rfl rfl ?hi rfl rfl ?om | apply qt_sliceLH rfl rfl rfl rfl ?hi rfl rfl ?om | apply qt_sliceLHM rfl rfl rfl rfl rfl ?hi rfl rfl ?om | apply qt_sliceHM rfl rfl rfl rfl ?hi rfl rfl ?om); (case om => (intro hg; first | omega | (simp only [Bool.or_eq_false_iff, Bool.or_eq_true, Bool.and_eq_true, Bool.and_eq_false_iff, Bool.not_eq_true', Bool.not_eq_false', Bool.not_eq_true, Bool.not_eq_false, decide_eq_true_eq, decide_eq_false_iff_not, Bool.not_not, beq_iff_eq, bne_iff_ne, Bool.beq_eq_decide_eq] at hg; omega)))) | apply qt_ev rfl ?hi | ((first | apply qt_load1 rfl rfl ?hi rfl rfl ?hm ?hc | apply qt_loadN rfl rfl ?hi rfl rfl rfl ?hm ?hc); (case hm => repeat (first | exact List.Mem.head _ | apply List.Mem.tail _ | apply List.mem_append_right _)); (case hc => rfl)) | apply qt_pick_t rfl rfl (by first | with_reducible rfl | decide) rfl ?hi | apply qt_pick_f rfl rfl (by first | with_reducible rfl | decide) rfl ?hi | ((first | apply qt_pick_and rfl rfl rfl ?hi ?pj | apply qt_pick_or rfl rfl rfl ?hi ?pj); (case pj => (intro h h2; first | with_reducible exact h2 | with_reducible rfl | (simp [h2]; done) | (simp_all; done)))) | apply qt_build rfl rfl ?hi rfl | apply qt_eqs rfl rfl rfl ?hi rfl (Or.inl rfl) | apply qt_nes rfl rfl rfl ?hi rfl (Or.inl rfl) | ((first | apply qt_rem rfl rfl rfl ?hi ?om | apply qt_quo rfl rfl rfl ?hi ?om | apply qt_shr rfl rfl rfl ?hi ?om | apply qt_shl rfl rfl rfl ?hi ?om); (case om => (intro hg; first | omega | (simp only [Bool.or_eq_false_iff, Bool.or_eq_true, Bool.and_eq_true, Bool.and_eq_false_iff, Bool.not_eq_true', Bool.not_eq_false', Bool.not_eq_true, Bool.not_eq_false, decide_eq_true_eq, decide_eq_false_iff_not, Bool.not_not, beq_iff_eq, bne_iff_ne, Bool.beq_eq_decide_eq] at hg; omega))))); (case hi => (intro h; (repeat' (first | with_reducible exact alln | with_reducible refine allc ?_ ?_ | with_reducible refine andi ?_ ?_)); all_goals (first | with_reducible rfl | with_reducible exact h | with_reducible exact andl h | with_reducible exact andr h | with_reducible exact andl (andl h) | (simp only [h, Bool.and_self]; done) | (simp [h]; done) | (simp_all; done)))))))
            | (refine KO.box rfl rfl rfl rfl rfl rfl ?_; intro _ _)
            | (refine KO.alloc rfl rfl rfl rfl rfl rfl ?_; intro _ _)
            | (refine KO.buildSlice rfl rfl rfl rfl rfl rfl rfl rfl rfl rfl rfl rfl rfl rfl ?_; intro _ _)
            | ((first | apply KO.store (i := 0) rfl rfl rfl rfl rfl rfl rfl rfl ?hl rfl ?hw ?ho ?hs | apply KO.store (i := 1) rfl rfl rfl rfl rfl rfl rfl rfl ?hl rfl ?hw ?ho ?hs | apply KO.store (i := 2) rfl rfl rfl rfl rfl rfl rfl rfl ?hl rfl ?hw ?ho ?hs | apply KO.store (i := 3) rfl rfl rfl rfl rfl rfl rfl rfl ?hl rfl ?hw ?ho ?hs | apply KO.store (i := 4) rfl rfl rfl rfl rfl rfl rfl rfl ?hl rfl ?hw ?ho ?hs | apply KO.store (i := 5) rfl rfl rfl rfl rfl rfl rfl rfl ?hl rfl ?hw ?ho ?hs | apply KO.store (i := 6) rfl rfl rfl rfl rfl rfl rfl rfl ?hl rfl ?hw ?ho ?hs | apply KO.store (i := 7) rfl rfl rfl rfl rfl rfl rfl rfl ?hl rfl ?hw ?ho ?hs); (case hl => rfl); (case hw => rfl); (case ho => rfl); (case hs => rfl))
            | (refine KW.cond rfl ?_ ?_ <;> (intro hc; try simp only [Bool.or_eq_false_iff, Bool.or_eq_true, Bool.and_eq_true, Bool.and_eq_false_iff, Bool.not_eq_true', Bool.not_eq_false', Bool.not_eq_true, Bool.not_eq_false, decide_eq_true_eq, decide_eq_false_iff_not, Bool.not_not, beq_iff_eq, bne_iff_ne, Bool.beq_eq_decide_eq] at hc))
            | exact absurd trivial ‹¬True›
            | ((have hjn : (0 : Int) ≤ i ∧ (i : Int) < m := by omega); (obtain ⟨bl, ol, rfl, h1⟩ := hp.2 (by omega)); (obtain ⟨⟨X, sz⟩, hx⟩ : ∃ z, ls[i]? = some z := ⟨_, List.getElem?_eq_getElem (by omega)⟩); (obtain ⟨hX, hs1⟩ := hls _ (List.mem_of_getElem? hx)); clear hp)
            | ((first | apply KO.val (g := true) rfl rfl rfl | apply KD.val (g := true) rfl rfl rfl | apply KDE.val (g := true) rfl rfl rfl | apply KDE.val rfl rfl rfl | apply KDH.val0 (g := true) rfl rfl rfl | apply KDH.val1 (g := true) rfl rfl rfl | apply KO.val rfl rfl rfl | apply KD.val rfl rfl rfl | apply KDH.val0 rfl rfl rfl | apply KO.valIn rfl rfl rfl | apply KD.valIn rfl rfl rfl); (apply qt_loadN_cel rfl rfl ?hi rfl rfl rfl ?hl ?hc); (case hc => first | exact fun _ => ((celP h1 hx).1.mono (fun _ hq => by cases hq)) | exact fun _ => ((celP h1 hx).2.mono (fun _ hq => by cases hq)) | exact fun hg => ((celP h1 hx).1.mono (fun _ hq => by cases hq)) | exact fun hg => ((celP h1 hx).2.mono (fun _ hq => by cases hq))); (case hl => rfl); (case hi => (first | exact fun _ => rfl | (intro h; first | rfl | exact h | (simp [h]; done) | (simp_all; done)))))
            | ((first | apply KO.val (g := true) rfl rfl rfl | apply KD.val (g := true) rfl rfl rfl | apply KDE.val (g := true) rfl rfl rfl | apply KDE.val rfl rfl rfl | apply KDH.val0 (g := true) rfl rfl rfl | apply KDH.val1 (g := true) rfl rfl rfl | apply KO.val rfl rfl rfl | apply KD.val rfl rfl rfl | apply KDH.val0 rfl rfl rfl | apply KO.valIn rfl rfl rfl | apply KD.valIn rfl rfl rfl); (apply qt_load1_cel rfl rfl ?hi rfl rfl ?hc); (case hc => first | exact fun _ => ((celP h1 hx).1.mono (fun _ hq => by cases hq)) | exact fun _ => ((celP h1 hx).2.mono (fun _ hq => by cases hq)) | exact fun hg => ((celP h1 hx).1.mono (fun _ hq => by cases hq)) | exact fun hg => ((celP h1 hx).2.mono (fun _ hq => by cases hq))); (case hi => (first | exact fun _ => rfl | (intro h; first | rfl | exact h | (simp [h]; done) | (simp_all; done)))))
            | (exfalso; omega)
            | (exfalso; omega)
            | fail)
          refine KO.appendL ((b1, cl (by8 (bes X z z)) 5) :: (bw, cl [u2] 26) :: (br, cl [.slice p' (tkR R z).length c'] 55) :: (b0, cl (by8 ys) 5) :: φw2) φo (by classical exact List.perm_iff_count.2 (fun _ => by first | (simp only [List.count_append, List.count_cons, List.count_nil, List.append_assoc, List.cons_append, List.nil_append]; done) | (simp only [List.count_append, List.count_cons, List.count_nil, List.append_assoc, List.cons_append, List.nil_append]; omega))) rfl rfl rfl rfl rfl rfl rfl rfl rfl rfl (by decide) ho (SL.ofBlk (xs := by8 (bes X z z)) (b := b1) (e := 5) (by simp) (by rw [by8_len, bes_len]; omega)) (fun h => (nomatch h)) (by8_one _) (by simp only [maxLen]; omega) (by omega) ?_
          intro v' φ' hv'
          obtain ⟨po', co', rfl⟩ := hv'.len
          repeat' (first
            | refine KW.seq ?_
            | refine KW.region ?_
            | refine KO.nil ?_
            | refine At.then_normal ?_
            | refine KW.skip ?_
            | refine KW.ret ?_
            | refine At.then_ret ?_
            | refine KW.block ?_
            | refine KW.exit ?_
            | refine At.block_normal ?_
            | refine At.block_ret ?_
            | refine At.loop_ret ?_
            | refine At.then_exit ?_
            | refine At.block_here rfl ?_
            | refine At.block_there rfl ?_
            | refine At.loop_exit ?_
            | refine At.cut_ret ?_
            | refine At.cutA_ret ?_
            | refine At.cutA_exit ?_
            | refine At.cut_exit ?_
            | (refine At.cut_same ?_; repeat' (first | exact FLe.nil _ | refine FLe.cons rfl rfl ?_))
            | refine KW.cond_t rfl (by first | with_reducible rfl | decide) ?_
            | refine KW.cond_f rfl (by first | with_reducible rfl | decide) ?_
            | refine KW.draw (id := 12) 10 (by decide +kernel) ?_
            | refine KW.drawE (id := 17) 10 5 (by decide +kernel) rfl ?_
            | refine KDH.mid2 ?_
            | refine KDH.mid3 ?_
            | refine KDH.done ?_
            | refine KDM.head0 ?_
            | refine KDM.head1 ?_
            | refine KDM.fin ?_
            | refine KDH.skip0' rfl (by first | with_reducible rfl | decide) rfl rfl ?_
            | refine KDH.skip1' rfl (by first | with_reducible rfl | decide) rfl rfl ?_
            | refine KDE.skip rfl rfl rfl ?_
            | ((first | refine KDM.eo2f rfl rfl rfl (eo_alloc rfl rfl rfl) ?_ | refine KDM.eo2t rfl rfl rfl (eo_alloc rfl rfl rfl) ?_); rintro _ _ ⟨_, _, rfl, rfl⟩; refine ⟨?sub, ?_⟩; (case sub => (intro _ hp; first | exact hp | (cases hp; done) | (repeat (first | exact hp | apply List.mem_cons_of_mem | apply List.mem_append_right)) | (simp_all; done))))
            | ((first | refine KDM.eo2f rfl rfl rfl (eo_box rfl rfl rfl) ?_ | refine KDM.eo2t rfl rfl rfl (eo_box rfl rfl rfl) ?_); rintro _ _ ⟨_, _, rfl, rfl⟩; refine ⟨?sub, ?_⟩; (case sub => (intro _ hp; first | exact hp | (cases hp; done) | (repeat (first | exact hp | apply List.mem_cons_of_mem | apply List.mem_append_right)) | (simp_all; done))))
            | ((first | refine KDM.eo2f rfl rfl rfl (eo_buildSlice rfl rfl rfl rfl rfl rfl rfl rfl rfl rfl rfl) ?_ | refine KDM.eo2t rfl rfl rfl (eo_buildSlice rfl rfl rfl rfl rfl rfl rfl rfl rfl rfl rfl) ?_); rintro _ _ ⟨_, _, rfl, rfl⟩; refine ⟨?sub, ?_⟩; (case sub => (intro _ hp; first | exact hp | (cases hp; done) | (repeat (first | exact hp | apply List.mem_cons_of_mem | apply List.mem_append_right)) | (simp_all; done))))
            | ((first | refine KDM.eo30 rfl rfl (eo_store (i := 0) rfl rfl rfl rfl rfl rfl rfl rfl rfl rfl rfl) ?_ | refine KDM.eo30 rfl rfl (eo_store (i := 1) rfl rfl rfl rfl rfl rfl rfl rfl rfl rfl rfl) ?_ | refine KDM.eo30 rfl rfl (eo_store (i := 2) rfl rfl rfl rfl rfl rfl rfl rfl rfl rfl rfl) ?_ | refine KDM.eo30 rfl rfl (eo_store (i := 3) rfl rfl rfl rfl rfl rfl rfl rfl rfl rfl rfl) ?_ | refine KDM.eo30 rfl rfl (eo_store (i := 4) rfl rfl rfl rfl rfl rfl rfl rfl rfl rfl rfl) ?_ | refine KDM.eo30 rfl rfl (eo_store (i := 5) rfl rfl rfl rfl rfl rfl rfl rfl rfl rfl rfl) ?_ | refine KDM.eo30 rfl rfl (eo_store (i := 6) rfl rfl rfl rfl rfl rfl rfl rfl rfl rfl rfl) ?_ | refine KDM.eo30 rfl rfl (eo_store (i := 7) rfl rfl rfl rfl rfl rfl rfl rfl rfl rfl rfl) ?_); rintro _ _ rfl; refine ⟨?sub, ?_⟩; (case sub => (intro _ hp; first | exact hp | (cases hp; done) | (repeat (first | exact hp | apply List.mem_cons_of_mem | apply List.mem_append_right)) | (simp_all; done))))
            | refine KW.draw 0 (by decide +kernel) ?_
            | refine KW.drawU rfl (by decide +kernel) ?_
            | refine KD.zero ?_
            | refine KD.skip' rfl (by first | with_reducible rfl | decide) rfl rfl ?_
            | refine KO.skip' rfl (by first | with_reducible rfl | decide) rfl rfl ?_
            | refine KO.skip0' rfl (by first | with_reducible rfl | decide) rfl ?_
            | ((first | apply KO.val rfl rfl rfl ?kq ?_ | apply KO.valIn rfl rfl rfl ?kq ?_ | apply KD.val rfl rfl rfl ?kq ?_ | apply KD.valIn rfl rfl rfl ?kq ?_ | apply KDH.val0 rfl rfl rfl ?kq ?_ | apply KDH.val1 rfl rfl rfl ?kq ?_ | apply KDH.valIn0 rfl rfl rfl ?kq ?_ | apply KDH.valIn1 rfl rfl rfl ?kq ?_ | apply KDE.val rfl rfl rfl ?kq ?_ | apply KDE.valIn rfl rfl rfl ?kq ?_ | apply KDM.q2f rfl rfl rfl ?kq ?ksub ?_ | apply KDM.q2t rfl rfl rfl ?kq ?ksub ?_); (try (case ksub => (intro _ hp; first | exact hp | (cases hp; done) | (repeat (first | exact hp | apply List.mem_cons_of_mem | apply List.mem_append_right)) | (simp_all; done)))); (case kq => ((first | ((first | apply qt_add rfl rfl rfl ?hi ?om | apply qt_sub rfl rfl rfl ?hi ?om | apply qt_mul rfl rfl rfl ?hi ?om | apply qt_remN rfl rfl rfl ?hi ?om | apply qt_quoN rfl rfl rfl ?hi ?om | apply qt_addU rfl rfl rfl ?hi ?om | apply qt_subU rfl rfl rfl ?hi ?om | apply qt_mulU rfl rfl rfl ?hi ?om | apply qt_quoU rfl rfl rfl ?hi ?om | apply qt_convI rfl rfl rfl rfl ?hi ?om | apply qt_convU rfl rfl rfl rfl ?hi ?om | apply qt_indexAddr_arr rfl rfl rfl ?hi rfl rfl ?om | apply qt_indexAddr_slice rfl rfl rfl ?hi rfl rfl ?om | apply qt_sliceL rfl rfl rfl ?hi rfl rfl ?om | apply qt_sliceH rfl rfl rfl ?hi rfl rfl ?om | apply qt_sliceLH rfl rfl rfl rfl ?hi rfl rfl ?om | apply qt_sliceLHM rfl rfl rfl rfl rfl ?hi rfl rfl ?om | apply qt_sliceHM rfl rfl rfl rfl ?hi rfl rfl ?om); (case om => (intro hg; first | omega | (simp only [Bool.or_eq_false_iff, Bool.or_eq_true, Bool.and_eq_true, Bool.and_eq_false_iff, Bool.not_eq_true', Bool.not_eq_false', Bool.not_eq_true, Bool.not_eq_false, decide_eq_true_eq, decide_eq_false_iff_not, Bool.not_not, beq_iff_eq, bne_iff_ne, Bool.beq_eq_decide_eq] at hg; omega)))) | apply qt_ev rfl ?hi | ((first | apply qt_load1 rfl rfl ?hi rfl rfl ?hm ?hc | apply qt_loadN rfl rfl ?hi rfl rfl rfl ?hm ?hc); (case hm => repeat (first | exact List.Mem.head _ | apply List.Mem.tail _ | apply List.mem_append_right _)); (case hc => rfl)) | apply qt_pick_t rfl rfl (by first | with_reducible rfl | decide) rfl ?hi | apply qt_pick_f rfl rfl (by first | with_reducible rfl | decide) rfl ?hi | ((first | apply qt_pick_and rfl rfl rfl ?hi ?pj | apply qt_pick_or rfl rfl rfl ?hi ?pj); (case pj => (intro h h2; first | with_reducible exact h2 | with_reducible rfl | (simp [h2]; done) | (simp_all; done)))) | apply qt_build rfl rfl ?hi rfl | apply qt_eqs rfl rfl rfl ?hi rfl (Or.inl rfl) | apply qt_nes rfl rfl rfl ?hi rfl (Or.inl rfl) | ((first | apply qt_rem rfl rfl rfl ?hi ?om | apply qt_quo rfl rfl rfl ?hi ?om | apply qt_shr rfl rfl rfl ?hi ?om | apply qt_shl rfl rfl rfl ?hi ?om); (case om => (intro hg; first | omega | (simp only [Bool.or_eq_false_iff, Bool.or_eq_true, Bool.and_eq_true, Bool.and_eq_false_iff, Bool.not_eq_true', Bool.not_eq_false', Bool.not_eq_true, Bool.not_eq_false, decide_eq_true_eq, decide_eq_false_iff_not, Bool.not_not, beq_iff_eq, bne_iff_ne, Bool.beq_eq_decide_eq] at hg; omega))))); (case hi => (intro h; (repeat' (first | with_reducible exact alln | with_reducible refine allc ?_ ?_ | with_reducible refine andi ?_ ?_)); all_goals (first | with_reducible rfl | with_reducible exact h | with_reducible exact andl h | with_reducible exact andr h | with_reducible exact andl (andl h) | (simp only [h, Bool.and_self]; done) | (simp [h]; done) | (simp_all; done)))))))
            | (refine KO.box rfl rfl rfl rfl rfl rfl ?_; intro _ _)
            | (refine KO.alloc rfl rfl rfl rfl rfl rfl ?_; intro _ _)
            | (refine KO.buildSlice rfl rfl rfl rfl rfl rfl rfl rfl rfl rfl rfl rfl rfl rfl ?_; intro _ _)
            | ((first | apply KO.store (i := 0) rfl rfl rfl rfl rfl rfl rfl rfl ?hl rfl ?hw ?ho ?hs | apply KO.store (i := 1) rfl rfl rfl rfl rfl rfl rfl rfl ?hl rfl ?hw ?ho ?hs | apply KO.store (i := 2) rfl rfl rfl rfl rfl rfl rfl rfl ?hl rfl ?hw ?ho ?hs | apply KO.store (i := 3) rfl rfl rfl rfl rfl rfl rfl rfl ?hl rfl ?hw ?ho ?hs | apply KO.store (i := 4) rfl rfl rfl rfl rfl rfl rfl rfl ?hl rfl ?hw ?ho ?hs | apply KO.store (i := 5) rfl rfl rfl rfl rfl rfl rfl rfl ?hl rfl ?hw ?ho ?hs | apply KO.store (i := 6) rfl rfl rfl rfl rfl rfl rfl rfl ?hl rfl ?hw ?ho ?hs | apply KO.store (i := 7) rfl rfl rfl rfl rfl rfl rfl rfl ?hl rfl ?hw ?ho ?hs); (case hl => rfl); (case hw => rfl); (case ho => rfl); (case hs => rfl))
            | (refine KW.cond rfl ?_ ?_ <;> (intro hc; try simp only [Bool.or_eq_false_iff, Bool.or_eq_true, Bool.and_eq_true, Bool.and_eq_false_iff, Bool.not_eq_true', Bool.not_eq_false', Bool.not_eq_true, Bool.not_eq_false, decide_eq_true_eq, decide_eq_false_iff_not, Bool.not_not, beq_iff_eq, bne_iff_ne, Bool.beq_eq_decide_eq] at hc))
            | exact absurd trivial ‹¬True›
            | ((have hjn : (0 : Int) ≤ i ∧ (i : Int) < m := by omega); (obtain ⟨bl, ol, rfl, h1⟩ := hp.2 (by omega)); (obtain ⟨⟨X, sz⟩, hx⟩ : ∃ z, ls[i]? = some z := ⟨_, List.getElem?_eq_getElem (by omega)⟩); (obtain ⟨hX, hs1⟩ := hls _ (List.mem_of_getElem? hx)); clear hp)
            | ((first | apply KO.val (g := true) rfl rfl rfl | apply KD.val (g := true) rfl rfl rfl | apply KDE.val (g := true) rfl rfl rfl | apply KDE.val rfl rfl rfl | apply KDH.val0 (g := true) rfl rfl rfl | apply KDH.val1 (g := true) rfl rfl rfl | apply KO.val rfl rfl rfl | apply KD.val rfl rfl rfl | apply KDH.val0 rfl rfl rfl | apply KO.valIn rfl rfl rfl | apply KD.valIn rfl rfl rfl); (apply qt_loadN_cel rfl rfl ?hi rfl rfl rfl ?hl ?hc); (case hc => first | exact fun _ => ((celP h1 hx).1.mono (fun _ hq => by cases hq)) | exact fun _ => ((celP h1 hx).2.mono (fun _ hq => by cases hq)) | exact fun hg => ((celP h1 hx).1.mono (fun _ hq => by cases hq)) | exact fun hg => ((celP h1 hx).2.mono (fun _ hq => by cases hq))); (case hl => rfl); (case hi => (first | exact fun _ => rfl | (intro h; first | rfl | exact h | (simp [h]; done) | (simp_all; done)))))
            | ((first | apply KO.val (g := true) rfl rfl rfl | apply KD.val (g := true) rfl rfl rfl | apply KDE.val (g := true) rfl rfl rfl | apply KDE.val rfl rfl rfl | apply KDH.val0 (g := true) rfl rfl rfl | apply KDH.val1 (g := true) rfl rfl rfl | apply KO.val rfl rfl rfl | apply KD.val rfl rfl rfl | apply KDH.val0 rfl rfl rfl | apply KO.valIn rfl rfl rfl | apply KD.valIn rfl rfl rfl); (apply qt_load1_cel rfl rfl ?hi rfl rfl ?hc); (case hc => first | exact fun _ => ((celP h1 hx).1.mono (fun _ hq => by cases hq)) | exact fun _ => ((celP h1 hx).2.mono (fun _ hq => by cases hq)) | exact fun hg => ((celP h1 hx).1.mono (fun _ hq => by cases hq)) | exact fun hg => ((celP h1 hx).2.mono (fun _ hq => by cases hq))); (case hi => (first | exact fun _ => rfl | (intro h; first | rfl | exact h | (simp [h]; done) | (simp_all; done)))))
            | (exfalso; omega)
            | (exfalso; omega)
            | fail)
          refine At.cutA_here (.slice po' (P.length + z) co', φ') ?_ ?_
          · dsimp only; rw [e8, List.length_append, bes_len, by8_append]; exact hv'
          · exact Le.permS (φ := [(b1, cl (by8 (bes X z z)) 5)]) (FLe.cons rfl rfl (FLe.cons rfl rfl (FLe.cons rfl rfl (FLe.cons rfl rfl (FLe.cons rfl rfl (FLe.cons rfl rfl (FLe.cons rfl rfl (FLe.cons rfl rfl (FLe.nil _))))))))) (by classical exact List.perm_iff_count.2 (fun _ => by first | (simp only [List.count_append, List.count_cons, List.count_nil, List.append_assoc, List.cons_append, List.nil_append]; done) | (simp only [List.count_append, List.count_cons, List.count_nil, List.append_assoc, List.cons_append, List.nil_append]; omega)))
        · have e7 : putE X z = 10 := by
            rcases put_no (X := X) hw with e7 | e7
            · rw [e7] at hq; simp at hq
            · exact e7
          have e8 : putB X z = [] := by simp [putB, e7]
          repeat' (first
            | refine KW.seq ?_
            | refine KW.region ?_
            | refine KO.nil ?_
            | refine At.then_normal ?_
            | refine KW.skip ?_
            | refine KW.ret ?_
            | refine At.then_ret ?_
            | refine KW.block ?_
            | refine KW.exit ?_
            | refine At.block_normal ?_
            | refine At.block_ret ?_
            | refine At.loop_ret ?_
            | refine At.then_exit ?_
            | refine At.block_here rfl ?_
            | refine At.block_there rfl ?_
            | refine At.loop_exit ?_
            | refine At.cut_ret ?_
            | refine At.cutA_ret ?_
            | refine At.cutA_exit ?_
            | refine At.cut_exit ?_
            | (refine At.cut_same ?_; repeat' (first | exact FLe.nil _ | refine FLe.cons rfl rfl ?_))
            | refine KW.cond_t rfl (by first | with_reducible rfl | decide) ?_
            | refine KW.cond_f rfl (by first | with_reducible rfl | decide) ?_
            | refine KW.draw (id := 12) 10 (by decide +kernel) ?_
            | refine KW.drawE (id := 17) 10 5 (by decide +kernel) rfl ?_
            | refine KDH.mid2 ?_
            | refine KDH.mid3 ?_
            | refine KDH.done ?_
            | refine KDM.head0 ?_
            | refine KDM.head1 ?_
            | refine KDM.fin ?_
            | refine KDH.skip0' rfl (by first | with_reducible rfl | decide) rfl rfl ?_
            | refine KDH.skip1' rfl (by first | with_reducible rfl | decide) rfl rfl ?_
            | refine KDE.skip rfl rfl rfl ?_
            | ((first | refine KDM.eo2f rfl rfl rfl (eo_alloc rfl rfl rfl) ?_ | refine KDM.eo2t rfl rfl rfl (eo_alloc rfl rfl rfl) ?_); rintro _ _ ⟨_, _, rfl, rfl⟩; refine ⟨?sub, ?_⟩; (case sub => (intro _ hp; first | exact hp | (cases hp; done) | (repeat (first | exact hp | apply List.mem_cons_of_mem | apply List.mem_append_right)) | (simp_all; done))))
            | ((first | refine KDM.eo2f rfl rfl rfl (eo_box rfl rfl rfl) ?_ | refine KDM.eo2t rfl rfl rfl (eo_box rfl rfl rfl) ?_); rintro _ _ ⟨_, _, rfl, rfl⟩; refine ⟨?sub, ?_⟩; (case sub => (intro _ hp; first | exact hp | (cases hp; done) | (repeat (first | exact hp | apply List.mem_cons_of_mem | apply List.mem_append_right)) | (simp_all; done))))
            | ((first | refine KDM.eo2f rfl rfl rfl (eo_buildSlice rfl rfl rfl rfl rfl rfl rfl rfl rfl rfl rfl) ?_ | refine KDM.eo2t rfl rfl rfl (eo_buildSlice rfl rfl rfl rfl rfl rfl rfl rfl rfl rfl rfl) ?_); rintro _ _ ⟨_, _, rfl, rfl⟩; refine ⟨?sub, ?_⟩; (case sub => (intro _ hp; first | exact hp | (cases hp; done) | (repeat (first | exact hp | apply List.mem_cons_of_mem | apply List.mem_append_right)) | (simp_all; done))))
            | ((first | refine KDM.eo30 rfl rfl (eo_store (i := 0) rfl rfl rfl rfl rfl rfl rfl rfl rfl rfl rfl) ?_ | refine KDM.eo30 rfl rfl (eo_store (i := 1) rfl rfl rfl rfl rfl rfl rfl rfl rfl rfl rfl) ?_ | refine KDM.eo30 rfl rfl (eo_store (i := 2) rfl rfl rfl rfl rfl rfl rfl rfl rfl rfl rfl) ?_ | refine KDM.eo30 rfl rfl (eo_store (i := 3) rfl rfl rfl rfl rfl rfl rfl rfl rfl rfl rfl) ?_ | refine KDM.eo30 rfl rfl (eo_store (i := 4) rfl rfl rfl rfl rfl rfl rfl rfl rfl rfl rfl) ?_ | refine KDM.eo30 rfl rfl (eo_store (i := 5) rfl rfl rfl rfl rfl rfl rfl rfl rfl rfl rfl) ?_ | refine KDM.eo30 rfl rfl (eo_store (i := 6) rfl rfl rfl rfl rfl rfl rfl rfl rfl rfl rfl) ?_ | refine KDM.eo30 rfl rfl (eo_store (i := 7) rfl rfl rfl rfl rfl rfl rfl rfl rfl rfl rfl) ?_); rintro _ _ rfl; refine ⟨?sub, ?_⟩; (case sub => (intro _ hp; first | exact hp | (cases hp; done) | (repeat (first | exact hp | apply List.mem_cons_of_mem | apply List.mem_append_right)) | (simp_all; done))))
            | refine KW.draw 0 (by decide +kernel) ?_
            | refine KW.drawU rfl (by decide +kernel) ?_
            | refine KD.zero ?_
            | refine KD.skip' rfl (by first | with_reducible rfl | decide) rfl rfl ?_
            | refine KO.skip' rfl (by first | with_reducible rfl | decide) rfl rfl ?_
            | refine KO.skip0' rfl (by first | with_reducible rfl | decide) rfl ?_
            | ((first | apply KO.val rfl rfl rfl ?kq ?_ | apply KO.valIn rfl rfl rfl ?kq ?_ | apply KD.val rfl rfl rfl ?kq ?_ | apply KD.valIn rfl rfl rfl ?kq ?_ | apply KDH.val0 rfl rfl rfl ?kq ?_ | apply KDH.val1 rfl rfl rfl ?kq ?_ | apply KDH.valIn0 rfl rfl rfl ?kq ?_ | apply KDH.valIn1 rfl rfl rfl ?kq ?_ | apply KDE.val rfl rfl rfl ?kq ?_ | apply KDE.valIn rfl rfl rfl ?kq ?_ | apply KDM.q2f rfl rfl rfl ?kq ?ksub ?_ | apply KDM.q2t rfl rfl rfl ?kq ?ksub ?_); (try (case ksub => (intro _ hp; first | exact hp | (cases hp; done) | (repeat (first | exact hp | apply List.mem_cons_of_mem | apply List.mem_append_right)) | (simp_all; done)))); (case kq => ((first | ((first | apply qt_add rfl rfl rfl ?hi ?om | apply qt_sub rfl rfl rfl ?hi ?om | apply qt_mul rfl rfl rfl ?hi ?om | apply qt_remN rfl rfl rfl ?hi ?om | apply qt_quoN rfl rfl rfl ?hi ?om | apply qt_addU rfl rfl rfl ?hi ?om | apply qt_subU rfl rfl rfl ?hi ?om | apply qt_mulU rfl rfl rfl ?hi ?om | apply qt_quoU rfl rfl rfl ?hi ?om | apply qt_convI rfl rfl rfl rfl ?hi ?om | apply qt_convU rfl rfl rfl rfl ?hi ?om | apply qt_indexAddr_arr rfl rfl rfl ?hi rfl rfl ?om | apply qt_indexAddr_slice rfl rfl rfl ?hi rfl rfl ?om | apply qt_sliceL rfl rfl rfl ?hi rfl rfl ?om | apply qt_sliceH rfl rfl rfl ?hi rfl rfl ?om | apply qt_sliceLH rfl rfl rfl rfl ?hi rfl rfl ?om | apply qt_sliceLHM rfl rfl rfl rfl rfl ?hi rfl rfl ?om | apply qt_sliceHM rfl rfl rfl rfl ?hi rfl rfl ?om); (case om => (intro hg; first | omega | (simp only [Bool.or_eq_false_iff, Bool.or_eq_true, Bool.and_eq_true, Bool.and_eq_false_iff, Bool.not_eq_true', Bool.not_eq_false', Bool.not_eq_true, Bool.not_eq_false, decide_eq_true_eq, decide_eq_false_iff_not, Bool.not_not, beq_iff_eq, bne_iff_ne, Bool.beq_eq_decide_eq] at hg; omega)))) | apply qt_ev rfl ?hi | ((first | apply qt_load1 rfl rfl ?hi rfl rfl ?hm ?hc | apply qt_loadN rfl rfl ?hi rfl rfl rfl ?hm ?hc); (case hm => repeat (first | exact List.Mem.head _ | apply List.Mem.tail _ | apply List.mem_append_right _)); (case hc => rfl)) | apply qt_pick_t rfl rfl (by first | with_reducible rfl | decide) rfl ?hi | apply qt_pick_f rfl rfl (by first | with_reducible rfl | decide) rfl ?hi | ((first | apply qt_pick_and rfl rfl rfl ?hi ?pj | apply qt_pick_or rfl rfl rfl ?hi ?pj); (case pj => (intro h h2; first | with_reducible exact h2 | with_reducible rfl | (simp [h2]; done) | (simp_all; done)))) | apply qt_build rfl rfl ?hi rfl | apply qt_eqs rfl rfl rfl ?hi rfl (Or.inl rfl) | apply qt_nes rfl rfl rfl ?hi rfl (Or.inl rfl) | ((first | apply qt_rem rfl rfl rfl ?hi ?om | apply qt_quo rfl rfl rfl ?hi ?om | apply qt_shr rfl rfl rfl ?hi ?om | apply qt_shl rfl rfl rfl ?hi ?om); (case om => (intro hg; first | omega | (simp only [Bool.or_eq_false_iff, Bool.or_eq_true, Bool.and_eq_true, Bool.and_eq_false_iff, Bool.not_eq_true', Bool.not_eq_false', Bool.not_eq_true, Bool.not_eq_false, decide_eq_true_eq, decide_eq_false_iff_not, Bool.not_not, beq_iff_eq, bne_iff_ne, Bool.beq_eq_decide_eq] at hg; omega))))); (case hi => (intro h; (repeat' (first | with_reducible exact alln | with_reducible refine allc ?_ ?_ | with_reducible refine andi ?_ ?_)); all_goals (first | with_reducible rfl | with_reducible exact h | with_reducible exact andl h | with_reducible exact andr h | with_reducible exact andl (andl h) | (simp only [h, Bool.and_self]; done) | (simp [h]; done) | (simp_all; done)))))))
            | (refine KO.box rfl rfl rfl rfl rfl rfl ?_; intro _ _)
            | (refine KO.alloc rfl rfl rfl rfl rfl rfl ?_; intro _ _)
            | (refine KO.buildSlice rfl rfl rfl rfl rfl rfl rfl rfl rfl rfl rfl rfl rfl rfl ?_; intro _ _)
            | ((first | apply KO.store (i := 0) rfl rfl rfl rfl rfl rfl rfl rfl ?hl rfl ?hw ?ho ?hs | apply KO.store (i := 1) rfl rfl rfl rfl rfl rfl rfl rfl ?hl rfl ?hw ?ho ?hs | apply KO.store (i := 2) rfl rfl rfl rfl rfl rfl rfl rfl ?hl rfl ?hw ?ho ?hs | apply KO.store (i := 3) rfl rfl rfl rfl rfl rfl rfl rfl ?hl rfl ?hw ?ho ?hs | apply KO.store (i := 4) rfl rfl rfl rfl rfl rfl rfl rfl ?hl rfl ?hw ?ho ?hs | apply KO.store (i := 5) rfl rfl rfl rfl rfl rfl rfl rfl ?hl rfl ?hw ?ho ?hs | apply KO.store (i := 6) rfl rfl rfl rfl rfl rfl rfl rfl ?hl rfl ?hw ?ho ?hs | apply KO.store (i := 7) rfl rfl rfl rfl rfl rfl rfl rfl ?hl rfl ?hw ?ho ?hs); (case hl => rfl); (case hw => rfl); (case ho => rfl); (case hs => rfl))
            | (refine KW.cond rfl ?_ ?_ <;> (intro hc; try simp only [Bool.or_eq_false_iff, Bool.or_eq_true, Bool.and_eq_true, Bool.and_eq_false_iff, Bool.not_eq_true', Bool.not_eq_false', Bool.not_eq_true, Bool.not_eq_false, decide_eq_true_eq, decide_eq_false_iff_not, Bool.not_not, beq_iff_eq, bne_iff_ne, Bool.beq_eq_decide_eq] at hc))
            | exact absurd trivial ‹¬True›
            | ((have hjn : (0 : Int) ≤ i ∧ (i : Int) < m := by omega); (obtain ⟨bl, ol, rfl, h1⟩ := hp.2 (by omega)); (obtain ⟨⟨X, sz⟩, hx⟩ : ∃ z, ls[i]? = some z := ⟨_, List.getElem?_eq_getElem (by omega)⟩); (obtain ⟨hX, hs1⟩ := hls _ (List.mem_of_getElem? hx)); clear hp)
            | ((first | apply KO.val (g := true) rfl rfl rfl | apply KD.val (g := true) rfl rfl rfl | apply KDE.val (g := true) rfl rfl rfl | apply KDE.val rfl rfl rfl | apply KDH.val0 (g := true) rfl rfl rfl | apply KDH.val1 (g := true) rfl rfl rfl | apply KO.val rfl rfl rfl | apply KD.val rfl rfl rfl | apply KDH.val0 rfl rfl rfl | apply KO.valIn rfl rfl rfl | apply KD.valIn rfl rfl rfl); (apply qt_loadN_cel rfl rfl ?hi rfl rfl rfl ?hl ?hc); (case hc => first | exact fun _ => ((celP h1 hx).1.mono (fun _ hq => by cases hq)) | exact fun _ => ((celP h1 hx).2.mono (fun _ hq => by cases hq)) | exact fun hg => ((celP h1 hx).1.mono (fun _ hq => by cases hq)) | exact fun hg => ((celP h1 hx).2.mono (fun _ hq => by cases hq))); (case hl => rfl); (case hi => (first | exact fun _ => rfl | (intro h; first | rfl | exact h | (simp [h]; done) | (simp_all; done)))))
            | ((first | apply KO.val (g := true) rfl rfl rfl | apply KD.val (g := true) rfl rfl rfl | apply KDE.val (g := true) rfl rfl rfl | apply KDE.val rfl rfl rfl | apply KDH.val0 (g := true) rfl rfl rfl | apply KDH.val1 (g := true) rfl rfl rfl | apply KO.val rfl rfl rfl | apply KD.val rfl rfl rfl | apply KDH.val0 rfl rfl rfl | apply KO.valIn rfl rfl rfl | apply KD.valIn rfl rfl rfl); (apply qt_load1_cel rfl rfl ?hi rfl rfl ?hc); (case hc => first | exact fun _ => ((celP h1 hx).1.mono (fun _ hq => by cases hq)) | exact fun _ => ((celP h1 hx).2.mono (fun _ hq => by cases hq)) | exact fun hg => ((celP h1 hx).1.mono (fun _ hq => by cases hq)) | exact fun hg => ((celP h1 hx).2.mono (fun _ hq => by cases hq))); (case hi => (first | exact fun _ => rfl | (intro h; first | rfl | exact h | (simp [h]; done) | (simp_all; done)))))
            | (exfalso; omega)
            | (exfalso; omega)
            | fail)
          refine At.cutA_here (o, φo) ?_ ?_
          · dsimp only; rw [e8, List.append_nil]; exact ho
          · exact Le.permS (φ := [(b1, cl (by8 (bes X z z)) 5)]) (FLe.cons rfl rfl (FLe.cons rfl rfl (FLe.cons rfl rfl (FLe.cons rfl rfl (FLe.cons rfl rfl (FLe.cons rfl rfl (FLe.cons rfl rfl (FLe.cons rfl rfl (FLe.nil _))))))))) (by classical exact List.perm_iff_count.2 (fun _ => by first | (simp only [List.count_append, List.count_cons, List.count_nil, List.append_assoc, List.cons_append, List.nil_append]; done) | (simp only [List.count_append, List.count_cons, List.count_nil, List.append_assoc, List.cons_append, List.nil_append]; omega)))
    · ((first | apply At.done_ret | apply At.done_normal); (focus (repeat' (first | exact ResVs.nil' | apply ResVs.cons' | exact ResV.tmp' rfl | (apply ResV.cell1 rfl ?hm rfl rfl ?hc; (case hm => repeat (first | exact List.Mem.head _ | apply List.Mem.tail _ | apply List.mem_append_right _)); (case hc => rfl)) | (apply ResV.cellN rfl ?hm rfl rfl rfl ?hc; (case hm => repeat (first | exact List.Mem.head _ | apply List.Mem.tail _ | apply List.mem_append_right _)); (case hc => rfl))))); dsimp only [resVal])
theorem WireNumbers_c (β : Nat → Option Obj) (vs : List Value) (hrd : RdVs Try.prog β [22, 23] vs) : Go.K.PureB Try.prog 3 vs.toArray β (.bool true) := by
  obtain ⟨va0, vr0, rfl, ha0, hrd⟩ := hrd.cons
  obtain ⟨va1, vr1, rfl, ha1, hrd⟩ := hrd.cons
  obtain rfl := hrd.nil
  have hq0 := rdV_one ha0 (by kernel_rfl)
  obtain ⟨ls_p, ls_m, ls_c, ls_xs, rfl, hs_ls, he_ls⟩ := rd_slice (k := 8) (ts := [31, 3]) Try.underlying22 (by kernel_rfl) (by kernel_rfl) hq0
  have hq1 := rdV_one ha1 (by kernel_rfl)
  obtain ⟨ys_p, ys_m, ys_c, ys, rfl, hb_ys⟩ := rd_bytes Try.underlying23 Try.underlying5 (by kernel_rfl) (by kernel_rfl) (by kernel_rfl) hq1
  have hs := hs_ls
  obtain ⟨_, _, _, _, hl, _⟩ := hs_ls
  obtain ⟨l, rfl, h1, h2⟩ := parts_of Try.underlying31 Try.underlying3 (by simpa using hl) (by simpa using he_ls)
  exact WireNumbers_p β ls_p ys_p ls_m ls_c ys_m ys_c l ys h1 (SL.ofR (by decide) hs) h2 hb_ys
set_option maxRecDepth 100000 in
theorem WireNumbers_lifted (os : Os) (started : os.Started) (H : Type) (enc : TypeId × Value → H) :
    ReturnsInHanded {} Try.checked os 3 .any (Rows.wireNumbersSpec.pre6 enc Try.prog Try.f3 Rows.wireNumbersRow.domain false) (Rows.wireNumbersSpec.post enc Try.prog Try.f3 false true false false) :=
  law_lift (C := Try.checked) Try.own started (by kernel_rfl) Try.func3
    (ChangeSpec.witness6 (enc := enc) (C := Try.checked) false ⟨#[], #[.slice none 0 0, .slice none 0 0], []⟩ 8 (by kernel_rfl) (by kernel_rfl) (by kernel_rfl) (by kernel_rfl))
    Try.laidOut rfl (by kernel_rfl) (by kernel_rfl) rfl Try.underlying4
    (fun ds h => by
      have h' : ds.length = 2 := h
      match ds, h' with
      | [_, _], _ => rfl)
    (fun β vs h => WireNumbers_c β vs h)

theorem WireNumbers_holds : Rows.WireNumbersSaid :=
  OpenClaim.holds_of_wide 3 Try.f3 rfl rfl rfl rfl rfl rfl rfl ⟨rfl, rfl, rfl, rfl, rfl⟩ rfl rfl rfl rfl rfl (by kernel_rfl) Try.func3 (by kernel_rfl)
    (of_decide_eq_true (by kernel_rfl)) (by unfold Func.isWrapper; first | (rw [if_pos (by decide +kernel)]; kernel_rfl) | (rw [if_neg (by decide +kernel)]; exact ⟨rfl, rfl⟩))
    (fun os started H enc _ => WireNumbers_lifted os started H enc)
end Go.Proofs.Ytkfoeiobdmialaa
