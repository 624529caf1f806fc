/- Masks: their bytes. -/
import Derived.Test.YthmiiamcmnciiaaDoorM8
import Derived.Test.YthmiiamcmnciiaaDoorK12
import Derived.Test.YthmiiamcmnciiaaDoorK15
import Derived.Test.YthmiiamcmnciiaaDoorK21
import Derived.Test.YthmiiamcmnciiaaDoorK22
namespace Go.Proofs.YthmiiamcmnciiaaDoor
open Go Go.K

theorem celL_num (w : Int) (f : Nat → Bool) (n : Nat) : celL w f n = (numL f n).map fun (i : Nat) => ((i : Int) % w, (i : Int) / w) := rfl
set_option maxHeartbeats 8000000 in
theorem mBytes_p (β : Nat → Option Obj) (w h : Int) (nw : Nat) (f : Nat → Bool) (bm bw : Nat) (hm : MaskR β [] w h nw f bm bw) (ht : TB β) (hg : gMay w h = true) (hnw : nw = nwO w h) (hF : ∀ i : Nat, w * h ≤ i → f i = false) :
    Go.K.Tr Tryd.prog 23 [.pointer (some ⟨bm, 0, none⟩)] β [] (fun v σ => ∃ br, v = .slice (some ⟨br, 0, none⟩) ((w * h + 7) / 8).toNat ((w * h + 7) / 8).toNat ∧ σ = [(br, cl (by8 (bytL f ((w * h + 7) / 8).toNat)) 5)]) := by
  refine Tr.sub ?_
  refine Tr.of_body Tryd.tt (args := [.pointer (some ⟨bm, 0, none⟩)]) (fr := [(0, true, .pointer (some ⟨bm, 0, none⟩))]) Tryd.func23 rfl (by decide) rfl Tryd.ntmps23 rfl rfl ?_
  intro E hE
  subst hE
  obtain ⟨n1, n2, n3, n7, n8, n9, n10, n4, n5, n6⟩ := nwO_bd hg
  have hw0 := hm.sz 0 _ rfl
  have hh0 := hm.sz 1 _ rfl
  have hh1 : Cel E.β [] bm (0 + 0 + 1) (.int .i64 h) := hh0
  obtain ⟨k, hk⟩ : ∃ k : Nat, (w * h + 8 - 1) / 8 = k := ⟨((w * h + 8 - 1) / 8).toNat, by omega⟩
  have hk2 : ((w * h + 7) / 8).toNat = k := by omega
  rw [hk2]
  repeat' (first
    | refine KW.seq ?_
    | refine KW.region ?_
    | refine KO.nil ?_
    | refine At.then_normal ?_
    | refine KW.skip ?_
    | refine KW.ret ?_
    | refine At.then_ret ?_
    | refine KW.block ?_
    | refine KW.exit ?_
    | refine At.block_normal ?_
    | refine At.block_ret ?_
    | refine At.loop_ret ?_
    | refine At.then_exit ?_
    | refine At.block_here rfl ?_
    | refine At.block_there rfl ?_
    | refine At.loop_exit ?_
    | refine At.cut_ret ?_
    | refine At.cutA_ret ?_
    | refine At.cutA_exit ?_
    | refine At.cut_exit ?_
    | (refine At.cut_same ?_; repeat' (first | exact FLe.nil _ | refine FLe.cons rfl rfl ?_))
    | refine KW.cond_t rfl (by first | with_reducible rfl | decide) ?_
    | refine KW.cond_f rfl (by first | with_reducible rfl | decide) ?_
    | fail
    | refine KDH.mid2 ?_
    | refine KDH.mid3 ?_
    | refine KDH.done ?_
    | refine KDM.head0 ?_
    | refine KDM.head1 ?_
    | refine KDM.fin ?_
    | refine KDH.skip0' rfl (by first | with_reducible rfl | decide) rfl rfl ?_
    | refine KDH.skip1' rfl (by first | with_reducible rfl | decide) rfl rfl ?_
    | ((first | refine KDM.eo2f rfl rfl rfl (eo_alloc rfl rfl rfl) ?_ | refine KDM.eo2t rfl rfl rfl (eo_alloc rfl rfl rfl) ?_); rintro _ _ ⟨_, _, rfl, rfl⟩; refine ⟨?sub, ?_⟩; (case sub => (intro _ hp; first | exact hp | (cases hp; done) | (repeat (first | exact hp | apply List.mem_cons_of_mem | apply List.mem_append_right)) | (simp_all; done))))
    | ((first | refine KDM.eo2f rfl rfl rfl (eo_box rfl rfl rfl) ?_ | refine KDM.eo2t rfl rfl rfl (eo_box rfl rfl rfl) ?_); rintro _ _ ⟨_, _, rfl, rfl⟩; refine ⟨?sub, ?_⟩; (case sub => (intro _ hp; first | exact hp | (cases hp; done) | (repeat (first | exact hp | apply List.mem_cons_of_mem | apply List.mem_append_right)) | (simp_all; done))))
    | ((first | refine KDM.eo2f rfl rfl rfl (eo_buildSlice rfl rfl rfl rfl rfl rfl rfl rfl rfl rfl rfl) ?_ | refine KDM.eo2t rfl rfl rfl (eo_buildSlice rfl rfl rfl rfl rfl rfl rfl rfl rfl rfl rfl) ?_); rintro _ _ ⟨_, _, rfl, rfl⟩; refine ⟨?sub, ?_⟩; (case sub => (intro _ hp; first | exact hp | (cases hp; done) | (repeat (first | exact hp | apply List.mem_cons_of_mem | apply List.mem_append_right)) | (simp_all; done))))
    | ((first | refine KDM.eo30 rfl rfl (eo_store (i := 0) rfl rfl rfl rfl rfl rfl rfl rfl rfl rfl rfl) ?_ | refine KDM.eo30 rfl rfl (eo_store (i := 1) rfl rfl rfl rfl rfl rfl rfl rfl rfl rfl rfl) ?_ | refine KDM.eo30 rfl rfl (eo_store (i := 2) rfl rfl rfl rfl rfl rfl rfl rfl rfl rfl rfl) ?_ | refine KDM.eo30 rfl rfl (eo_store (i := 3) rfl rfl rfl rfl rfl rfl rfl rfl rfl rfl rfl) ?_ | refine KDM.eo30 rfl rfl (eo_store (i := 4) rfl rfl rfl rfl rfl rfl rfl rfl rfl rfl rfl) ?_ | refine KDM.eo30 rfl rfl (eo_store (i := 5) rfl rfl rfl rfl rfl rfl rfl rfl rfl rfl rfl) ?_ | refine KDM.eo30 rfl rfl (eo_store (i := 6) rfl rfl rfl rfl rfl rfl rfl rfl rfl rfl rfl) ?_ | refine KDM.eo30 rfl rfl (eo_store (i := 7) rfl rfl rfl rfl rfl rfl rfl rfl rfl rfl rfl) ?_); rintro _ _ rfl; refine ⟨?sub, ?_⟩; (case sub => (intro _ hp; first | exact hp | (cases hp; done) | (repeat (first | exact hp | apply List.mem_cons_of_mem | apply List.mem_append_right)) | (simp_all; done))))
    | refine KW.draw 0 (by decide +kernel) ?_
    | refine KW.drawU rfl (by decide +kernel) ?_
    | refine KD.zero ?_
    | ((first | apply KO.val rfl rfl rfl ?kq ?_ | apply KD.val rfl rfl rfl ?kq ?_ | apply KDH.val0 rfl rfl rfl ?kq ?_ | apply KDH.val1 rfl rfl rfl ?kq ?_ | apply KDH.valIn0 rfl rfl rfl ?kq ?_ | apply KDH.valIn1 rfl rfl rfl ?kq ?_ | apply KDM.q2f rfl rfl rfl ?kq ?ksub ?_ | apply KDM.q2t rfl rfl rfl ?kq ?ksub ?_); (try (case ksub => (intro _ hp; first | exact hp | (cases hp; done) | (repeat (first | exact hp | apply List.mem_cons_of_mem | apply List.mem_append_right)) | (simp_all; done)))); (case kq => ((first | ((first | apply qt_add rfl rfl rfl ?hi ?om | apply qt_sub rfl rfl rfl ?hi ?om | apply qt_mul rfl rfl rfl ?hi ?om | apply qt_remN rfl rfl rfl ?hi ?om | apply qt_quoN rfl rfl rfl ?hi ?om | apply qt_indexAddr_arr rfl rfl rfl ?hi rfl rfl ?om | apply qt_indexAddr_slice rfl rfl rfl ?hi rfl rfl ?om); (case om => (intro hg; first | omega | (simp only [Bool.or_eq_false_iff, Bool.or_eq_true, Bool.and_eq_true, Bool.and_eq_false_iff, Bool.not_eq_true', Bool.not_eq_false', Bool.not_eq_true, Bool.not_eq_false, decide_eq_true_eq, decide_eq_false_iff_not, Bool.not_not, beq_iff_eq, bne_iff_ne, Bool.beq_eq_decide_eq] at hg; omega)))) | apply qt_ev rfl ?hi | ((first | apply qt_load1 rfl rfl ?hi rfl rfl ?hm ?hc | apply qt_loadN rfl rfl ?hi rfl rfl rfl ?hm ?hc); (case hm => repeat (first | exact List.Mem.head _ | apply List.Mem.tail _ | apply List.mem_append_right _)); (case hc => rfl)) | apply qt_eqs rfl rfl rfl ?hi rfl (Or.inl rfl) | apply qt_nes rfl rfl rfl ?hi rfl (Or.inl rfl) | ((first | apply qt_quoT rfl rfl rfl ?hi ?om); (case om => (intro hg; first | omega | (simp only [Bool.or_eq_false_iff, Bool.or_eq_true, Bool.and_eq_true, Bool.and_eq_false_iff, Bool.not_eq_true', Bool.not_eq_false', Bool.not_eq_true, Bool.not_eq_false, decide_eq_true_eq, decide_eq_false_iff_not, Bool.not_not, beq_iff_eq, bne_iff_ne, Bool.beq_eq_decide_eq] at hg; omega)))) | ((first | apply qt_rem rfl rfl rfl ?hi ?om | apply qt_quo rfl rfl rfl ?hi ?om | apply qt_shl rfl rfl rfl ?hi ?om); (case om => (intro hg; first | omega | (simp only [Bool.or_eq_false_iff, Bool.or_eq_true, Bool.and_eq_true, Bool.and_eq_false_iff, Bool.not_eq_true', Bool.not_eq_false', Bool.not_eq_true, Bool.not_eq_false, decide_eq_true_eq, decide_eq_false_iff_not, Bool.not_not, beq_iff_eq, bne_iff_ne, Bool.beq_eq_decide_eq] at hg; omega))))); (case hi => (intro h; (repeat' (first | with_reducible exact alln | with_reducible refine allc ?_ ?_ | with_reducible refine andi ?_ ?_)); all_goals (first | with_reducible rfl | with_reducible exact h | with_reducible exact andl h | with_reducible exact andr h | with_reducible exact andl (andl h) | (simp only [h, Bool.and_self]; done) | (simp [h]; done) | (simp_all; done)))))))
    | (refine KO.box rfl rfl rfl rfl rfl rfl ?_; intro _ _)
    | (refine KO.alloc rfl rfl rfl rfl rfl rfl ?_; intro _ _)
    | ((first | apply KO.store (i := 0) rfl rfl rfl rfl rfl rfl rfl rfl ?hl rfl ?hw ?ho ?hs | apply KO.store (i := 1) rfl rfl rfl rfl rfl rfl rfl rfl ?hl rfl ?hw ?ho ?hs | apply KO.store (i := 2) rfl rfl rfl rfl rfl rfl rfl rfl ?hl rfl ?hw ?ho ?hs | apply KO.store (i := 3) rfl rfl rfl rfl rfl rfl rfl rfl ?hl rfl ?hw ?ho ?hs | apply KO.store (i := 4) rfl rfl rfl rfl rfl rfl rfl rfl ?hl rfl ?hw ?ho ?hs | apply KO.store (i := 5) rfl rfl rfl rfl rfl rfl rfl rfl ?hl rfl ?hw ?ho ?hs | apply KO.store (i := 6) rfl rfl rfl rfl rfl rfl rfl rfl ?hl rfl ?hw ?ho ?hs | apply KO.store (i := 7) rfl rfl rfl rfl rfl rfl rfl rfl ?hl rfl ?hw ?ho ?hs); (case hl => rfl); (case hw => rfl); (case ho => rfl); (case hs => rfl))
    | (refine KW.cond rfl ?_ ?_ <;> (intro hc; try simp only [Bool.or_eq_false_iff, Bool.or_eq_true, Bool.and_eq_true, Bool.and_eq_false_iff, Bool.not_eq_true', Bool.not_eq_false', Bool.not_eq_true, Bool.not_eq_false, decide_eq_true_eq, decide_eq_false_iff_not, Bool.not_not, beq_iff_eq, bne_iff_ne, Bool.beq_eq_decide_eq] at hc))
    | exact absurd trivial ‹¬True›
    | ((first | apply KO.val (g := true) rfl rfl rfl | apply KD.val (g := true) rfl rfl rfl | apply KDE.val (g := true) rfl rfl rfl | apply KDE.val rfl rfl rfl | apply KDH.val0 (g := true) rfl rfl rfl | apply KDH.val1 (g := true) rfl rfl rfl | apply KD.val rfl rfl rfl | apply KDH.val0 rfl rfl rfl); (apply qt_loadN_cel rfl rfl ?hi rfl rfl rfl ?hl ?hc); (case hc => first | exact fun _ => (hw0.mono (fun _ hq => by cases hq)) | exact fun _ => (hh1.mono (fun _ hq => by cases hq)) | exact fun hg => (hw0.mono (fun _ hq => by cases hq)) | exact fun hg => (hh1.mono (fun _ hq => by cases hq))); (case hl => rfl); (case hi => (first | exact fun _ => rfl | (intro h; first | rfl | exact h | (simp [h]; done) | (simp_all; done)))))
    | ((first | apply KO.val (g := true) rfl rfl rfl | apply KD.val (g := true) rfl rfl rfl | apply KDE.val (g := true) rfl rfl rfl | apply KDE.val rfl rfl rfl | apply KDH.val0 (g := true) rfl rfl rfl | apply KDH.val1 (g := true) rfl rfl rfl | apply KD.val rfl rfl rfl | apply KDH.val0 rfl rfl rfl); (apply qt_load1_cel rfl rfl ?hi rfl rfl ?hc); (case hc => first | exact fun _ => (hw0.mono (fun _ hq => by cases hq)) | exact fun _ => (hh1.mono (fun _ hq => by cases hq)) | exact fun hg => (hw0.mono (fun _ hq => by cases hq)) | exact fun hg => (hh1.mono (fun _ hq => by cases hq))); (case hi => (first | exact fun _ => rfl | (intro h; first | rfl | exact h | (simp [h]; done) | (simp_all; done)))))
    | fail)
  rename_i b1 _
  refine KW.cutA (fun _ : Nat × Nat => True) (fun s => ([(3, true, .pointer (some ⟨s.1, 0, none⟩)), (1, true, .pointer (some ⟨b1, 0, none⟩))], (s.1, cl [.slice (some ⟨s.2, 0, none⟩) k k] 46) :: (s.2, cl (List.replicate k (.int .u8 0)) 5) :: (b1, cl [.pointer (some ⟨bm, 0, none⟩)] 27) :: [])) ?_ (KW.drawP (id := 3) 14 [0, 0, 0, 0, 0, 0, 0, 0, 0, 0, 0, 0, 0, 0, 2, 2] rfl rfl rfl rfl rfl rfl rfl rfl (by decide +kernel) ?_)
  · rintro ⟨bo, br⟩ _
    dsimp only
    repeat' (first
      | refine KW.seq ?_
      | refine KW.region ?_
      | refine KO.nil ?_
      | refine At.then_normal ?_
      | refine KW.skip ?_
      | refine KW.ret ?_
      | refine At.then_ret ?_
      | refine KW.block ?_
      | refine KW.exit ?_
      | refine At.block_normal ?_
      | refine At.block_ret ?_
      | refine At.loop_ret ?_
      | refine At.then_exit ?_
      | refine At.block_here rfl ?_
      | refine At.block_there rfl ?_
      | refine At.loop_exit ?_
      | refine At.cut_ret ?_
      | refine At.cutA_ret ?_
      | refine At.cutA_exit ?_
      | refine At.cut_exit ?_
      | (refine At.cut_same ?_; repeat' (first | exact FLe.nil _ | refine FLe.cons rfl rfl ?_))
      | refine KW.cond_t rfl (by first | with_reducible rfl | decide) ?_
      | refine KW.cond_f rfl (by first | with_reducible rfl | decide) ?_
      | fail
      | refine KDH.mid2 ?_
      | refine KDH.mid3 ?_
      | refine KDH.done ?_
      | refine KDM.head0 ?_
      | refine KDM.head1 ?_
      | refine KDM.fin ?_
      | refine KDH.skip0' rfl (by first | with_reducible rfl | decide) rfl rfl ?_
      | refine KDH.skip1' rfl (by first | with_reducible rfl | decide) rfl rfl ?_
      | ((first | refine KDM.eo2f rfl rfl rfl (eo_alloc rfl rfl rfl) ?_ | refine KDM.eo2t rfl rfl rfl (eo_alloc rfl rfl rfl) ?_); rintro _ _ ⟨_, _, rfl, rfl⟩; refine ⟨?sub, ?_⟩; (case sub => (intro _ hp; first | exact hp | (cases hp; done) | (repeat (first | exact hp | apply List.mem_cons_of_mem | apply List.mem_append_right)) | (simp_all; done))))
      | ((first | refine KDM.eo2f rfl rfl rfl (eo_box rfl rfl rfl) ?_ | refine KDM.eo2t rfl rfl rfl (eo_box rfl rfl rfl) ?_); rintro _ _ ⟨_, _, rfl, rfl⟩; refine ⟨?sub, ?_⟩; (case sub => (intro _ hp; first | exact hp | (cases hp; done) | (repeat (first | exact hp | apply List.mem_cons_of_mem | apply List.mem_append_right)) | (simp_all; done))))
      | ((first | refine KDM.eo2f rfl rfl rfl (eo_buildSlice rfl rfl rfl rfl rfl rfl rfl rfl rfl rfl rfl) ?_ | refine KDM.eo2t rfl rfl rfl (eo_buildSlice rfl rfl rfl rfl rfl rfl rfl rfl rfl rfl rfl) ?_); rintro _ _ ⟨_, _, rfl, rfl⟩; refine ⟨?sub, ?_⟩; (case sub => (intro _ hp; first | exact hp | (cases hp; done) | (repeat (first | exact hp | apply List.mem_cons_of_mem | apply List.mem_append_right)) | (simp_all; done))))
      | ((first | refine KDM.eo30 rfl rfl (eo_store (i := 0) rfl rfl rfl rfl rfl rfl rfl rfl rfl rfl rfl) ?_ | refine KDM.eo30 rfl rfl (eo_store (i := 1) rfl rfl rfl rfl rfl rfl rfl rfl rfl rfl rfl) ?_ | refine KDM.eo30 rfl rfl (eo_store (i := 2) rfl rfl rfl rfl rfl rfl rfl rfl rfl rfl rfl) ?_ | refine KDM.eo30 rfl rfl (eo_store (i := 3) rfl rfl rfl rfl rfl rfl rfl rfl rfl rfl rfl) ?_ | refine KDM.eo30 rfl rfl (eo_store (i := 4) rfl rfl rfl rfl rfl rfl rfl rfl rfl rfl rfl) ?_ | refine KDM.eo30 rfl rfl (eo_store (i := 5) rfl rfl rfl rfl rfl rfl rfl rfl rfl rfl rfl) ?_ | refine KDM.eo30 rfl rfl (eo_store (i := 6) rfl rfl rfl rfl rfl rfl rfl rfl rfl rfl rfl) ?_ | refine KDM.eo30 rfl rfl (eo_store (i := 7) rfl rfl rfl rfl rfl rfl rfl rfl rfl rfl rfl) ?_); rintro _ _ rfl; refine ⟨?sub, ?_⟩; (case sub => (intro _ hp; first | exact hp | (cases hp; done) | (repeat (first | exact hp | apply List.mem_cons_of_mem | apply List.mem_append_right)) | (simp_all; done))))
      | refine KW.draw 0 (by decide +kernel) ?_
      | refine KW.drawU rfl (by decide +kernel) ?_
      | refine KD.zero ?_
      | ((first | apply KO.val rfl rfl rfl ?kq ?_ | apply KD.val rfl rfl rfl ?kq ?_ | apply KDH.val0 rfl rfl rfl ?kq ?_ | apply KDH.val1 rfl rfl rfl ?kq ?_ | apply KDH.valIn0 rfl rfl rfl ?kq ?_ | apply KDH.valIn1 rfl rfl rfl ?kq ?_ | apply KDM.q2f rfl rfl rfl ?kq ?ksub ?_ | apply KDM.q2t rfl rfl rfl ?kq ?ksub ?_); (try (case ksub => (intro _ hp; first | exact hp | (cases hp; done) | (repeat (first | exact hp | apply List.mem_cons_of_mem | apply List.mem_append_right)) | (simp_all; done)))); (case kq => ((first | ((first | apply qt_add rfl rfl rfl ?hi ?om | apply qt_sub rfl rfl rfl ?hi ?om | apply qt_mul rfl rfl rfl ?hi ?om | apply qt_remN rfl rfl rfl ?hi ?om | apply qt_quoN rfl rfl rfl ?hi ?om | apply qt_indexAddr_arr rfl rfl rfl ?hi rfl rfl ?om | apply qt_indexAddr_slice rfl rfl rfl ?hi rfl rfl ?om); (case om => (intro hg; first | omega | (simp only [Bool.or_eq_false_iff, Bool.or_eq_true, Bool.and_eq_true, Bool.and_eq_false_iff, Bool.not_eq_true', Bool.not_eq_false', Bool.not_eq_true, Bool.not_eq_false, decide_eq_true_eq, decide_eq_false_iff_not, Bool.not_not, beq_iff_eq, bne_iff_ne, Bool.beq_eq_decide_eq] at hg; omega)))) | apply qt_ev rfl ?hi | ((first | apply qt_load1 rfl rfl ?hi rfl rfl ?hm ?hc | apply qt_loadN rfl rfl ?hi rfl rfl rfl ?hm ?hc); (case hm => repeat (first | exact List.Mem.head _ | apply List.Mem.tail _ | apply List.mem_append_right _)); (case hc => rfl)) | apply qt_eqs rfl rfl rfl ?hi rfl (Or.inl rfl) | apply qt_nes rfl rfl rfl ?hi rfl (Or.inl rfl) | ((first | apply qt_quoT rfl rfl rfl ?hi ?om); (case om => (intro hg; first | omega | (simp only [Bool.or_eq_false_iff, Bool.or_eq_true, Bool.and_eq_true, Bool.and_eq_false_iff, Bool.not_eq_true', Bool.not_eq_false', Bool.not_eq_true, Bool.not_eq_false, decide_eq_true_eq, decide_eq_false_iff_not, Bool.not_not, beq_iff_eq, bne_iff_ne, Bool.beq_eq_decide_eq] at hg; omega)))) | ((first | apply qt_rem rfl rfl rfl ?hi ?om | apply qt_quo rfl rfl rfl ?hi ?om | apply qt_shl rfl rfl rfl ?hi ?om); (case om => (intro hg; first | omega | (simp only [Bool.or_eq_false_iff, Bool.or_eq_true, Bool.and_eq_true, Bool.and_eq_false_iff, Bool.not_eq_true', Bool.not_eq_false', Bool.not_eq_true, Bool.not_eq_false, decide_eq_true_eq, decide_eq_false_iff_not, Bool.not_not, beq_iff_eq, bne_iff_ne, Bool.beq_eq_decide_eq] at hg; omega))))); (case hi => (intro h; (repeat' (first | with_reducible exact alln | with_reducible refine allc ?_ ?_ | with_reducible refine andi ?_ ?_)); all_goals (first | with_reducible rfl | with_reducible exact h | with_reducible exact andl h | with_reducible exact andr h | with_reducible exact andl (andl h) | (simp only [h, Bool.and_self]; done) | (simp [h]; done) | (simp_all; done)))))))
      | (refine KO.box rfl rfl rfl rfl rfl rfl ?_; intro _ _)
      | (refine KO.alloc rfl rfl rfl rfl rfl rfl ?_; intro _ _)
      | ((first | apply KO.store (i := 0) rfl rfl rfl rfl rfl rfl rfl rfl ?hl rfl ?hw ?ho ?hs | apply KO.store (i := 1) rfl rfl rfl rfl rfl rfl rfl rfl ?hl rfl ?hw ?ho ?hs | apply KO.store (i := 2) rfl rfl rfl rfl rfl rfl rfl rfl ?hl rfl ?hw ?ho ?hs | apply KO.store (i := 3) rfl rfl rfl rfl rfl rfl rfl rfl ?hl rfl ?hw ?ho ?hs | apply KO.store (i := 4) rfl rfl rfl rfl rfl rfl rfl rfl ?hl rfl ?hw ?ho ?hs | apply KO.store (i := 5) rfl rfl rfl rfl rfl rfl rfl rfl ?hl rfl ?hw ?ho ?hs | apply KO.store (i := 6) rfl rfl rfl rfl rfl rfl rfl rfl ?hl rfl ?hw ?ho ?hs | apply KO.store (i := 7) rfl rfl rfl rfl rfl rfl rfl rfl ?hl rfl ?hw ?ho ?hs); (case hl => rfl); (case hw => rfl); (case ho => rfl); (case hs => rfl))
      | (refine KW.cond rfl ?_ ?_ <;> (intro hc; try simp only [Bool.or_eq_false_iff, Bool.or_eq_true, Bool.and_eq_true, Bool.and_eq_false_iff, Bool.not_eq_true', Bool.not_eq_false', Bool.not_eq_true, Bool.not_eq_false, decide_eq_true_eq, decide_eq_false_iff_not, Bool.not_not, beq_iff_eq, bne_iff_ne, Bool.beq_eq_decide_eq] at hc))
      | exact absurd trivial ‹¬True›
      | ((first | apply KO.val (g := true) rfl rfl rfl | apply KD.val (g := true) rfl rfl rfl | apply KDE.val (g := true) rfl rfl rfl | apply KDE.val rfl rfl rfl | apply KDH.val0 (g := true) rfl rfl rfl | apply KDH.val1 (g := true) rfl rfl rfl | apply KD.val rfl rfl rfl | apply KDH.val0 rfl rfl rfl); (apply qt_loadN_cel rfl rfl ?hi rfl rfl rfl ?hl ?hc); (case hc => first | exact fun _ => (hw0.mono (fun _ hq => by cases hq)) | exact fun _ => (hh1.mono (fun _ hq => by cases hq)) | exact fun hg => (hw0.mono (fun _ hq => by cases hq)) | exact fun hg => (hh1.mono (fun _ hq => by cases hq))); (case hl => rfl); (case hi => (first | exact fun _ => rfl | (intro h; first | rfl | exact h | (simp [h]; done) | (simp_all; done)))))
      | ((first | apply KO.val (g := true) rfl rfl rfl | apply KD.val (g := true) rfl rfl rfl | apply KDE.val (g := true) rfl rfl rfl | apply KDE.val rfl rfl rfl | apply KDH.val0 (g := true) rfl rfl rfl | apply KDH.val1 (g := true) rfl rfl rfl | apply KD.val rfl rfl rfl | apply KDH.val0 rfl rfl rfl); (apply qt_load1_cel rfl rfl ?hi rfl rfl ?hc); (case hc => first | exact fun _ => (hw0.mono (fun _ hq => by cases hq)) | exact fun _ => (hh1.mono (fun _ hq => by cases hq)) | exact fun hg => (hw0.mono (fun _ hq => by cases hq)) | exact fun hg => (hh1.mono (fun _ hq => by cases hq))); (case hi => (first | exact fun _ => rfl | (intro h; first | rfl | exact h | (simp [h]; done) | (simp_all; done)))))
      | fail)
    refine KO.callE rfl rfl rfl rfl rfl rfl rfl rfl (mCells_p _ bm) ?_
    rintro _ _ ⟨bp, rfl, rfl⟩
    repeat' (first
      | refine KW.seq ?_
      | refine KW.region ?_
      | refine KO.nil ?_
      | refine At.then_normal ?_
      | refine KW.skip ?_
      | refine KW.ret ?_
      | refine At.then_ret ?_
      | refine KW.block ?_
      | refine KW.exit ?_
      | refine At.block_normal ?_
      | refine At.block_ret ?_
      | refine At.loop_ret ?_
      | refine At.then_exit ?_
      | refine At.block_here rfl ?_
      | refine At.block_there rfl ?_
      | refine At.loop_exit ?_
      | refine At.cut_ret ?_
      | refine At.cutA_ret ?_
      | refine At.cutA_exit ?_
      | refine At.cut_exit ?_
      | (refine At.cut_same ?_; repeat' (first | exact FLe.nil _ | refine FLe.cons rfl rfl ?_))
      | refine KW.cond_t rfl (by first | with_reducible rfl | decide) ?_
      | refine KW.cond_f rfl (by first | with_reducible rfl | decide) ?_
      | fail
      | refine KDH.mid2 ?_
      | refine KDH.mid3 ?_
      | refine KDH.done ?_
      | refine KDM.head0 ?_
      | refine KDM.head1 ?_
      | refine KDM.fin ?_
      | refine KDH.skip0' rfl (by first | with_reducible rfl | decide) rfl rfl ?_
      | refine KDH.skip1' rfl (by first | with_reducible rfl | decide) rfl rfl ?_
      | ((first | refine KDM.eo2f rfl rfl rfl (eo_alloc rfl rfl rfl) ?_ | refine KDM.eo2t rfl rfl rfl (eo_alloc rfl rfl rfl) ?_); rintro _ _ ⟨_, _, rfl, rfl⟩; refine ⟨?sub, ?_⟩; (case sub => (intro _ hp; first | exact hp | (cases hp; done) | (repeat (first | exact hp | apply List.mem_cons_of_mem | apply List.mem_append_right)) | (simp_all; done))))
      | ((first | refine KDM.eo2f rfl rfl rfl (eo_box rfl rfl rfl) ?_ | refine KDM.eo2t rfl rfl rfl (eo_box rfl rfl rfl) ?_); rintro _ _ ⟨_, _, rfl, rfl⟩; refine ⟨?sub, ?_⟩; (case sub => (intro _ hp; first | exact hp | (cases hp; done) | (repeat (first | exact hp | apply List.mem_cons_of_mem | apply List.mem_append_right)) | (simp_all; done))))
      | ((first | refine KDM.eo2f rfl rfl rfl (eo_buildSlice rfl rfl rfl rfl rfl rfl rfl rfl rfl rfl rfl) ?_ | refine KDM.eo2t rfl rfl rfl (eo_buildSlice rfl rfl rfl rfl rfl rfl rfl rfl rfl rfl rfl) ?_); rintro _ _ ⟨_, _, rfl, rfl⟩; refine ⟨?sub, ?_⟩; (case sub => (intro _ hp; first | exact hp | (cases hp; done) | (repeat (first | exact hp | apply List.mem_cons_of_mem | apply List.mem_append_right)) | (simp_all; done))))
      | ((first | refine KDM.eo30 rfl rfl (eo_store (i := 0) rfl rfl rfl rfl rfl rfl rfl rfl rfl rfl rfl) ?_ | refine KDM.eo30 rfl rfl (eo_store (i := 1) rfl rfl rfl rfl rfl rfl rfl rfl rfl rfl rfl) ?_ | refine KDM.eo30 rfl rfl (eo_store (i := 2) rfl rfl rfl rfl rfl rfl rfl rfl rfl rfl rfl) ?_ | refine KDM.eo30 rfl rfl (eo_store (i := 3) rfl rfl rfl rfl rfl rfl rfl rfl rfl rfl rfl) ?_ | refine KDM.eo30 rfl rfl (eo_store (i := 4) rfl rfl rfl rfl rfl rfl rfl rfl rfl rfl rfl) ?_ | refine KDM.eo30 rfl rfl (eo_store (i := 5) rfl rfl rfl rfl rfl rfl rfl rfl rfl rfl rfl) ?_ | refine KDM.eo30 rfl rfl (eo_store (i := 6) rfl rfl rfl rfl rfl rfl rfl rfl rfl rfl rfl) ?_ | refine KDM.eo30 rfl rfl (eo_store (i := 7) rfl rfl rfl rfl rfl rfl rfl rfl rfl rfl rfl) ?_); rintro _ _ rfl; refine ⟨?sub, ?_⟩; (case sub => (intro _ hp; first | exact hp | (cases hp; done) | (repeat (first | exact hp | apply List.mem_cons_of_mem | apply List.mem_append_right)) | (simp_all; done))))
      | refine KW.draw 0 (by decide +kernel) ?_
      | refine KW.drawU rfl (by decide +kernel) ?_
      | refine KD.zero ?_
      | ((first | apply KO.val rfl rfl rfl ?kq ?_ | apply KD.val rfl rfl rfl ?kq ?_ | apply KDH.val0 rfl rfl rfl ?kq ?_ | apply KDH.val1 rfl rfl rfl ?kq ?_ | apply KDH.valIn0 rfl rfl rfl ?kq ?_ | apply KDH.valIn1 rfl rfl rfl ?kq ?_ | apply KDM.q2f rfl rfl rfl ?kq ?ksub ?_ | apply KDM.q2t rfl rfl rfl ?kq ?ksub ?_); (try (case ksub => (intro _ hp; first | exact hp | (cases hp; done) | (repeat (first | exact hp | apply List.mem_cons_of_mem | apply List.mem_append_right)) | (simp_all; done)))); (case kq => ((first | ((first | apply qt_add rfl rfl rfl ?hi ?om | apply qt_sub rfl rfl rfl ?hi ?om | apply qt_mul rfl rfl rfl ?hi ?om | apply qt_remN rfl rfl rfl ?hi ?om | apply qt_quoN rfl rfl rfl ?hi ?om | apply qt_indexAddr_arr rfl rfl rfl ?hi rfl rfl ?om | apply qt_indexAddr_slice rfl rfl rfl ?hi rfl rfl ?om); (case om => (intro hg; first | omega | (simp only [Bool.or_eq_false_iff, Bool.or_eq_true, Bool.and_eq_true, Bool.and_eq_false_iff, Bool.not_eq_true', Bool.not_eq_false', Bool.not_eq_true, Bool.not_eq_false, decide_eq_true_eq, decide_eq_false_iff_not, Bool.not_not, beq_iff_eq, bne_iff_ne, Bool.beq_eq_decide_eq] at hg; omega)))) | apply qt_ev rfl ?hi | ((first | apply qt_load1 rfl rfl ?hi rfl rfl ?hm ?hc | apply qt_loadN rfl rfl ?hi rfl rfl rfl ?hm ?hc); (case hm => repeat (first | exact List.Mem.head _ | apply List.Mem.tail _ | apply List.mem_append_right _)); (case hc => rfl)) | apply qt_eqs rfl rfl rfl ?hi rfl (Or.inl rfl) | apply qt_nes rfl rfl rfl ?hi rfl (Or.inl rfl) | ((first | apply qt_quoT rfl rfl rfl ?hi ?om); (case om => (intro hg; first | omega | (simp only [Bool.or_eq_false_iff, Bool.or_eq_true, Bool.and_eq_true, Bool.and_eq_false_iff, Bool.not_eq_true', Bool.not_eq_false', Bool.not_eq_true, Bool.not_eq_false, decide_eq_true_eq, decide_eq_false_iff_not, Bool.not_not, beq_iff_eq, bne_iff_ne, Bool.beq_eq_decide_eq] at hg; omega)))) | ((first | apply qt_rem rfl rfl rfl ?hi ?om | apply qt_quo rfl rfl rfl ?hi ?om | apply qt_shl rfl rfl rfl ?hi ?om); (case om => (intro hg; first | omega | (simp only [Bool.or_eq_false_iff, Bool.or_eq_true, Bool.and_eq_true, Bool.and_eq_false_iff, Bool.not_eq_true', Bool.not_eq_false', Bool.not_eq_true, Bool.not_eq_false, decide_eq_true_eq, decide_eq_false_iff_not, Bool.not_not, beq_iff_eq, bne_iff_ne, Bool.beq_eq_decide_eq] at hg; omega))))); (case hi => (intro h; (repeat' (first | with_reducible exact alln | with_reducible refine allc ?_ ?_ | with_reducible refine andi ?_ ?_)); all_goals (first | with_reducible rfl | with_reducible exact h | with_reducible exact andl h | with_reducible exact andr h | with_reducible exact andl (andl h) | (simp only [h, Bool.and_self]; done) | (simp [h]; done) | (simp_all; done)))))))
      | (refine KO.box rfl rfl rfl rfl rfl rfl ?_; intro _ _)
      | (refine KO.alloc rfl rfl rfl rfl rfl rfl ?_; intro _ _)
      | ((first | apply KO.store (i := 0) rfl rfl rfl rfl rfl rfl rfl rfl ?hl rfl ?hw ?ho ?hs | apply KO.store (i := 1) rfl rfl rfl rfl rfl rfl rfl rfl ?hl rfl ?hw ?ho ?hs | apply KO.store (i := 2) rfl rfl rfl rfl rfl rfl rfl rfl ?hl rfl ?hw ?ho ?hs | apply KO.store (i := 3) rfl rfl rfl rfl rfl rfl rfl rfl ?hl rfl ?hw ?ho ?hs | apply KO.store (i := 4) rfl rfl rfl rfl rfl rfl rfl rfl ?hl rfl ?hw ?ho ?hs | apply KO.store (i := 5) rfl rfl rfl rfl rfl rfl rfl rfl ?hl rfl ?hw ?ho ?hs | apply KO.store (i := 6) rfl rfl rfl rfl rfl rfl rfl rfl ?hl rfl ?hw ?ho ?hs | apply KO.store (i := 7) rfl rfl rfl rfl rfl rfl rfl rfl ?hl rfl ?hw ?ho ?hs); (case hl => rfl); (case hw => rfl); (case ho => rfl); (case hs => rfl))
      | (refine KW.cond rfl ?_ ?_ <;> (intro hc; try simp only [Bool.or_eq_false_iff, Bool.or_eq_true, Bool.and_eq_true, Bool.and_eq_false_iff, Bool.not_eq_true', Bool.not_eq_false', Bool.not_eq_true, Bool.not_eq_false, decide_eq_true_eq, decide_eq_false_iff_not, Bool.not_not, beq_iff_eq, bne_iff_ne, Bool.beq_eq_decide_eq] at hc))
      | exact absurd trivial ‹¬True›
      | ((first | apply KO.val (g := true) rfl rfl rfl | apply KD.val (g := true) rfl rfl rfl | apply KDE.val (g := true) rfl rfl rfl | apply KDE.val rfl rfl rfl | apply KDH.val0 (g := true) rfl rfl rfl | apply KDH.val1 (g := true) rfl rfl rfl | apply KD.val rfl rfl rfl | apply KDH.val0 rfl rfl rfl); (apply qt_loadN_cel rfl rfl ?hi rfl rfl rfl ?hl ?hc); (case hc => first | exact fun _ => (hw0.mono (fun _ hq => by cases hq)) | exact fun _ => (hh1.mono (fun _ hq => by cases hq)) | exact fun hg => (hw0.mono (fun _ hq => by cases hq)) | exact fun hg => (hh1.mono (fun _ hq => by cases hq))); (case hl => rfl); (case hi => (first | exact fun _ => rfl | (intro h; first | rfl | exact h | (simp [h]; done) | (simp_all; done)))))
      | ((first | apply KO.val (g := true) rfl rfl rfl | apply KD.val (g := true) rfl rfl rfl | apply KDE.val (g := true) rfl rfl rfl | apply KDE.val rfl rfl rfl | apply KDH.val0 (g := true) rfl rfl rfl | apply KDH.val1 (g := true) rfl rfl rfl | apply KD.val rfl rfl rfl | apply KDH.val0 rfl rfl rfl); (apply qt_load1_cel rfl rfl ?hi rfl rfl ?hc); (case hc => first | exact fun _ => (hw0.mono (fun _ hq => by cases hq)) | exact fun _ => (hh1.mono (fun _ hq => by cases hq)) | exact fun hg => (hw0.mono (fun _ hq => by cases hq)) | exact fun hg => (hh1.mono (fun _ hq => by cases hq))); (case hi => (first | exact fun _ => rfl | (intro h; first | rfl | exact h | (simp [h]; done) | (simp_all; done)))))
      | fail)
    rw [← bv8_zero]
    have hnn : ∀ i : Nat, 64 * nw ≤ i → f i = false := fun i hi => hF i (by omega)
    refine KW.perm (σ' := ((bo, cl [.slice (some ⟨br, 0, none⟩) k k] 46) :: (br, cl (bv8 (bytL (fun _ => false) k)) 5) :: (b1, cl [.pointer (some ⟨bm, 0, none⟩)] 27) :: []) ++ cellC bp bm) (by classical exact List.perm_iff_count.2 (fun _ => by first | (simp only [List.count_append, List.count_cons, List.count_nil, List.append_assoc, List.cons_append, List.nil_append]; done) | (simp only [List.count_append, List.count_cons, List.count_nil, List.append_assoc, List.cons_append, List.nil_append]; omega))) ?_
    refine KW.range ((bo, cl [.slice (some ⟨br, 0, none⟩) k k] 46) :: (br, cl (bv8 (bytL (fun _ => false) k)) 5) :: (b1, cl [.pointer (some ⟨bm, 0, none⟩)] 27) :: []) (cellC bp bm)
      (fun j σ => σ = (bo, cl [.slice (some ⟨br, 0, none⟩) k k] 46) :: (br, cl (bv8 (bytL (updL ((numL f (64 * nw)).take j)) k)) 5) :: (b1, cl [.pointer (some ⟨bm, 0, none⟩)] 27) :: [])
      (fun _ _ => False)
      rfl rfl (mCells1_p E.β w h nw f bm bw bp hm ht (by omega) (by omega)) trivial (by intro x hx; obtain ⟨c, _, rfl⟩ := List.mem_map.1 hx; rfl) rfl rfl ?_ ?_ ?_
    · rintro j it σ' hit rfl lA E1 hE1
      rw [celL_num] at hit
      obtain ⟨i, hji, rfl⟩ : ∃ i : Nat, (numL f (64 * nw))[j]? = some i ∧ it = itP ((i : Int) % w, (i : Int) / w) := by
        rw [List.map_map, List.getElem?_map] at hit
        cases hb : (numL f (64 * nw))[j]? with
        | none => rw [hb] at hit; cases hit
        | some b => rw [hb] at hit; exact ⟨b, rfl, (Option.some.inj hit).symm⟩
      have hfi : f i = true := (List.mem_filter.1 (List.mem_of_getElem? hji)).2
      have hiwh : (i : Int) < w * h := by
        rcases Int.lt_or_le (i : Int) (w * h) with h1 | h1
        · exact h1
        · rw [hF i h1] at hfi; cases hfi
      have hupd : updL ((numL f (64 * nw)).take (j + 1)) = upd (updL ((numL f (64 * nw)).take j)) i true := by
        rw [List.take_add_one, hji]; exact updL_snoc _ _
      obtain ⟨F, hFq⟩ : ∃ F, F = updL ((numL f (64 * nw)).take j) := ⟨_, rfl⟩
      rw [← hFq] at hupd ⊢
      obtain ⟨cx, hcx⟩ : ∃ c, c = (i : Int) % w := ⟨_, rfl⟩
      obtain ⟨cy, hcy⟩ : ∃ c, c = (i : Int) / w := ⟨_, rfl⟩
      rw [← hcx, ← hcy]
      have hc0 : cy * w + cx = i := by rw [hcx, hcy, Int.mul_comm]; exact Int.mul_ediv_add_emod i w
      have hc1 : 0 ≤ cx ∧ cx < w := by rw [hcx]; exact ⟨Int.emod_nonneg _ (by omega), Int.emod_lt_of_pos _ (by omega)⟩
      have hc2 : 0 ≤ cy ∧ cy ≤ 65536 := by
        rw [hcy]
        exact ⟨Int.ediv_nonneg (by omega) (by omega), Int.le_trans (Int.ediv_le_self _ (by omega)) (by omega)⟩
      have hik : i / 8 < k := by omega
      have hoff : 0 + ((i : Int) / 8).toNat * 1 = i / 8 := by omega
      have hget : (bv8 (bytL F k))[0 + ((i : Int) / 8).toNat * 1]? = some (.int .u8 (Y8 F (i / 8) : Int)) := by rw [hoff]; exact bv8_get hik
      rw [show itP (cx, cy) = [.agg #[.int .i64 cx, .int .i64 cy]] from rfl]
      repeat' (first
        | refine KW.seq ?_
        | refine KW.region ?_
        | refine KO.nil ?_
        | refine At.then_normal ?_
        | refine KW.skip ?_
        | refine KW.ret ?_
        | refine At.then_ret ?_
        | refine KW.block ?_
        | refine KW.exit ?_
        | refine At.block_normal ?_
        | refine At.block_ret ?_
        | refine At.loop_ret ?_
        | refine At.then_exit ?_
        | refine At.block_here rfl ?_
        | refine At.block_there rfl ?_
        | refine At.loop_exit ?_
        | refine At.cut_ret ?_
        | refine At.cutA_ret ?_
        | refine At.cutA_exit ?_
        | refine At.cut_exit ?_
        | (refine At.cut_same ?_; repeat' (first | exact FLe.nil _ | refine FLe.cons rfl rfl ?_))
        | refine KW.cond_t rfl (by first | with_reducible rfl | decide) ?_
        | refine KW.cond_f rfl (by first | with_reducible rfl | decide) ?_
        | fail
        | refine KDH.mid2 ?_
        | refine KDH.mid3 ?_
        | refine KDH.done ?_
        | refine KDM.head0 ?_
        | refine KDM.head1 ?_
        | refine KDM.fin ?_
        | refine KDH.skip0' rfl (by first | with_reducible rfl | decide) rfl rfl ?_
        | refine KDH.skip1' rfl (by first | with_reducible rfl | decide) rfl rfl ?_
        | ((first | refine KDM.eo2f rfl rfl rfl (eo_alloc rfl rfl rfl) ?_ | refine KDM.eo2t rfl rfl rfl (eo_alloc rfl rfl rfl) ?_); rintro _ _ ⟨_, _, rfl, rfl⟩; refine ⟨?sub, ?_⟩; (case sub => (intro _ hp; first | exact hp | (cases hp; done) | (repeat (first | exact hp | apply List.mem_cons_of_mem | apply List.mem_append_right)) | (simp_all; done))))
        | ((first | refine KDM.eo2f rfl rfl rfl (eo_box rfl rfl rfl) ?_ | refine KDM.eo2t rfl rfl rfl (eo_box rfl rfl rfl) ?_); rintro _ _ ⟨_, _, rfl, rfl⟩; refine ⟨?sub, ?_⟩; (case sub => (intro _ hp; first | exact hp | (cases hp; done) | (repeat (first | exact hp | apply List.mem_cons_of_mem | apply List.mem_append_right)) | (simp_all; done))))
        | ((first | refine KDM.eo2f rfl rfl rfl (eo_buildSlice rfl rfl rfl rfl rfl rfl rfl rfl rfl rfl rfl) ?_ | refine KDM.eo2t rfl rfl rfl (eo_buildSlice rfl rfl rfl rfl rfl rfl rfl rfl rfl rfl rfl) ?_); rintro _ _ ⟨_, _, rfl, rfl⟩; refine ⟨?sub, ?_⟩; (case sub => (intro _ hp; first | exact hp | (cases hp; done) | (repeat (first | exact hp | apply List.mem_cons_of_mem | apply List.mem_append_right)) | (simp_all; done))))
        | ((first | refine KDM.eo30 rfl rfl (eo_store (i := 0) rfl rfl rfl rfl rfl rfl rfl rfl rfl rfl rfl) ?_ | refine KDM.eo30 rfl rfl (eo_store (i := 1) rfl rfl rfl rfl rfl rfl rfl rfl rfl rfl rfl) ?_ | refine KDM.eo30 rfl rfl (eo_store (i := 2) rfl rfl rfl rfl rfl rfl rfl rfl rfl rfl rfl) ?_ | refine KDM.eo30 rfl rfl (eo_store (i := 3) rfl rfl rfl rfl rfl rfl rfl rfl rfl rfl rfl) ?_ | refine KDM.eo30 rfl rfl (eo_store (i := 4) rfl rfl rfl rfl rfl rfl rfl rfl rfl rfl rfl) ?_ | refine KDM.eo30 rfl rfl (eo_store (i := 5) rfl rfl rfl rfl rfl rfl rfl rfl rfl rfl rfl) ?_ | refine KDM.eo30 rfl rfl (eo_store (i := 6) rfl rfl rfl rfl rfl rfl rfl rfl rfl rfl rfl) ?_ | refine KDM.eo30 rfl rfl (eo_store (i := 7) rfl rfl rfl rfl rfl rfl rfl rfl rfl rfl rfl) ?_); rintro _ _ rfl; refine ⟨?sub, ?_⟩; (case sub => (intro _ hp; first | exact hp | (cases hp; done) | (repeat (first | exact hp | apply List.mem_cons_of_mem | apply List.mem_append_right)) | (simp_all; done))))
        | refine KW.draw 0 (by decide +kernel) ?_
        | refine KW.drawU rfl (by decide +kernel) ?_
        | refine KD.zero ?_
        | ((first | apply KO.val rfl rfl rfl ?kq ?_ | apply KD.val rfl rfl rfl ?kq ?_ | apply KDH.val0 rfl rfl rfl ?kq ?_ | apply KDH.val1 rfl rfl rfl ?kq ?_ | apply KDH.valIn0 rfl rfl rfl ?kq ?_ | apply KDH.valIn1 rfl rfl rfl ?kq ?_ | apply KDM.q2f rfl rfl rfl ?kq ?ksub ?_ | apply KDM.q2t rfl rfl rfl ?kq ?ksub ?_); (try (case ksub => (intro _ hp; first | exact hp | (cases hp; done) | (repeat (first | exact hp | apply List.mem_cons_of_mem | apply List.mem_append_right)) | (simp_all; done)))); (case kq => ((first | ((first | apply qt_add rfl rfl rfl ?hi ?om | apply qt_sub rfl rfl rfl ?hi ?om | apply qt_mul rfl rfl rfl ?hi ?om | apply qt_remN rfl rfl rfl ?hi ?om | apply qt_quoN rfl rfl rfl ?hi ?om | apply qt_indexAddr_arr rfl rfl rfl ?hi rfl rfl ?om | apply qt_indexAddr_slice rfl rfl rfl ?hi rfl rfl ?om); (case om => (intro hg; first | omega | (simp only [Bool.or_eq_false_iff, Bool.or_eq_true, Bool.and_eq_true, Bool.and_eq_false_iff, Bool.not_eq_true', Bool.not_eq_false', Bool.not_eq_true, Bool.not_eq_false, decide_eq_true_eq, decide_eq_false_iff_not, Bool.not_not, beq_iff_eq, bne_iff_ne, Bool.beq_eq_decide_eq] at hg; omega)))) | apply qt_ev rfl ?hi | ((first | apply qt_load1 rfl rfl ?hi rfl rfl ?hm ?hc | apply qt_loadN rfl rfl ?hi rfl rfl rfl ?hm ?hc); (case hm => repeat (first | exact List.Mem.head _ | apply List.Mem.tail _ | apply List.mem_append_right _)); (case hc => rfl)) | apply qt_eqs rfl rfl rfl ?hi rfl (Or.inl rfl) | apply qt_nes rfl rfl rfl ?hi rfl (Or.inl rfl) | ((first | apply qt_quoT rfl rfl rfl ?hi ?om); (case om => (intro hg; first | omega | (simp only [Bool.or_eq_false_iff, Bool.or_eq_true, Bool.and_eq_true, Bool.and_eq_false_iff, Bool.not_eq_true', Bool.not_eq_false', Bool.not_eq_true, Bool.not_eq_false, decide_eq_true_eq, decide_eq_false_iff_not, Bool.not_not, beq_iff_eq, bne_iff_ne, Bool.beq_eq_decide_eq] at hg; omega)))) | ((first | apply qt_rem rfl rfl rfl ?hi ?om | apply qt_quo rfl rfl rfl ?hi ?om | apply qt_shl rfl rfl rfl ?hi ?om); (case om => (intro hg; first | omega | (simp only [Bool.or_eq_false_iff, Bool.or_eq_true, Bool.and_eq_true, Bool.and_eq_false_iff, Bool.not_eq_true', Bool.not_eq_false', Bool.not_eq_true, Bool.not_eq_false, decide_eq_true_eq, decide_eq_false_iff_not, Bool.not_not, beq_iff_eq, bne_iff_ne, Bool.beq_eq_decide_eq] at hg; omega))))); (case hi => (intro h; (repeat' (first | with_reducible exact alln | with_reducible refine allc ?_ ?_ | with_reducible refine andi ?_ ?_)); all_goals (first | with_reducible rfl | with_reducible exact h | with_reducible exact andl h | with_reducible exact andr h | with_reducible exact andl (andl h) | (simp only [h, Bool.and_self]; done) | (simp [h]; done) | (simp_all; done)))))))
        | (refine KO.box rfl rfl rfl rfl rfl rfl ?_; intro _ _)
        | (refine KO.alloc rfl rfl rfl rfl rfl rfl ?_; intro _ _)
        | ((first | apply KO.store (i := 0) rfl rfl rfl rfl rfl rfl rfl rfl ?hl rfl ?hw ?ho ?hs | apply KO.store (i := 1) rfl rfl rfl rfl rfl rfl rfl rfl ?hl rfl ?hw ?ho ?hs | apply KO.store (i := 2) rfl rfl rfl rfl rfl rfl rfl rfl ?hl rfl ?hw ?ho ?hs | apply KO.store (i := 3) rfl rfl rfl rfl rfl rfl rfl rfl ?hl rfl ?hw ?ho ?hs | apply KO.store (i := 4) rfl rfl rfl rfl rfl rfl rfl rfl ?hl rfl ?hw ?ho ?hs | apply KO.store (i := 5) rfl rfl rfl rfl rfl rfl rfl rfl ?hl rfl ?hw ?ho ?hs | apply KO.store (i := 6) rfl rfl rfl rfl rfl rfl rfl rfl ?hl rfl ?hw ?ho ?hs | apply KO.store (i := 7) rfl rfl rfl rfl rfl rfl rfl rfl ?hl rfl ?hw ?ho ?hs); (case hl => rfl); (case hw => rfl); (case ho => rfl); (case hs => rfl))
        | (refine KW.cond rfl ?_ ?_ <;> (intro hc; try simp only [Bool.or_eq_false_iff, Bool.or_eq_true, Bool.and_eq_true, Bool.and_eq_false_iff, Bool.not_eq_true', Bool.not_eq_false', Bool.not_eq_true, Bool.not_eq_false, decide_eq_true_eq, decide_eq_false_iff_not, Bool.not_not, beq_iff_eq, bne_iff_ne, Bool.beq_eq_decide_eq] at hc))
        | exact absurd trivial ‹¬True›
        | ((first | apply KO.val (g := true) rfl rfl rfl | apply KD.val (g := true) rfl rfl rfl | apply KDE.val (g := true) rfl rfl rfl | apply KDE.val rfl rfl rfl | apply KDH.val0 (g := true) rfl rfl rfl | apply KDH.val1 (g := true) rfl rfl rfl | apply KD.val rfl rfl rfl | apply KDH.val0 rfl rfl rfl); (apply qt_loadN_cel rfl rfl ?hi rfl rfl rfl ?hl ?hc); (case hc => first | exact fun _ => (hw0.mono (fun _ hq => by cases hq)) | exact fun _ => (hh1.mono (fun _ hq => by cases hq)) | exact fun hg => (hw0.mono (fun _ hq => by cases hq)) | exact fun hg => (hh1.mono (fun _ hq => by cases hq))); (case hl => rfl); (case hi => (first | exact fun _ => rfl | (intro h; first | rfl | exact h | (simp [h]; done) | (simp_all; done)))))
        | ((first | apply KO.val (g := true) rfl rfl rfl | apply KD.val (g := true) rfl rfl rfl | apply KDE.val (g := true) rfl rfl rfl | apply KDE.val rfl rfl rfl | apply KDH.val0 (g := true) rfl rfl rfl | apply KDH.val1 (g := true) rfl rfl rfl | apply KD.val rfl rfl rfl | apply KDH.val0 rfl rfl rfl); (apply qt_load1_cel rfl rfl ?hi rfl rfl ?hc); (case hc => first | exact fun _ => (hw0.mono (fun _ hq => by cases hq)) | exact fun _ => (hh1.mono (fun _ hq => by cases hq)) | exact fun hg => (hw0.mono (fun _ hq => by cases hq)) | exact fun hg => (hh1.mono (fun _ hq => by cases hq))); (case hi => (first | exact fun _ => rfl | (intro h; first | rfl | exact h | (simp [h]; done) | (simp_all; done)))))
        | fail)
      refine At.assigned (fun E2 hE2 hl2 => ?_)
      have hw1 := Cel.up hE2 hw0
      repeat' (first
        | refine KW.seq ?_
        | refine KW.region ?_
        | refine KO.nil ?_
        | refine At.then_normal ?_
        | refine KW.skip ?_
        | refine KW.ret ?_
        | refine At.then_ret ?_
        | refine KW.block ?_
        | refine KW.exit ?_
        | refine At.block_normal ?_
        | refine At.block_ret ?_
        | refine At.loop_ret ?_
        | refine At.then_exit ?_
        | refine At.block_here rfl ?_
        | refine At.block_there rfl ?_
        | refine At.loop_exit ?_
        | refine At.cut_ret ?_
        | refine At.cutA_ret ?_
        | refine At.cutA_exit ?_
        | refine At.cut_exit ?_
        | (refine At.cut_same ?_; repeat' (first | exact FLe.nil _ | refine FLe.cons rfl rfl ?_))
        | refine KW.cond_t rfl (by first | with_reducible rfl | decide) ?_
        | refine KW.cond_f rfl (by first | with_reducible rfl | decide) ?_
        | fail
        | refine KDH.mid2 ?_
        | refine KDH.mid3 ?_
        | refine KDH.done ?_
        | refine KDM.head0 ?_
        | refine KDM.head1 ?_
        | refine KDM.fin ?_
        | refine KDH.skip0' rfl (by first | with_reducible rfl | decide) rfl rfl ?_
        | refine KDH.skip1' rfl (by first | with_reducible rfl | decide) rfl rfl ?_
        | ((first | refine KDM.eo2f rfl rfl rfl (eo_alloc rfl rfl rfl) ?_ | refine KDM.eo2t rfl rfl rfl (eo_alloc rfl rfl rfl) ?_); rintro _ _ ⟨_, _, rfl, rfl⟩; refine ⟨?sub, ?_⟩; (case sub => (intro _ hp; first | exact hp | (cases hp; done) | (repeat (first | exact hp | apply List.mem_cons_of_mem | apply List.mem_append_right)) | (simp_all; done))))
        | ((first | refine KDM.eo2f rfl rfl rfl (eo_box rfl rfl rfl) ?_ | refine KDM.eo2t rfl rfl rfl (eo_box rfl rfl rfl) ?_); rintro _ _ ⟨_, _, rfl, rfl⟩; refine ⟨?sub, ?_⟩; (case sub => (intro _ hp; first | exact hp | (cases hp; done) | (repeat (first | exact hp | apply List.mem_cons_of_mem | apply List.mem_append_right)) | (simp_all; done))))
        | ((first | refine KDM.eo2f rfl rfl rfl (eo_buildSlice rfl rfl rfl rfl rfl rfl rfl rfl rfl rfl rfl) ?_ | refine KDM.eo2t rfl rfl rfl (eo_buildSlice rfl rfl rfl rfl rfl rfl rfl rfl rfl rfl rfl) ?_); rintro _ _ ⟨_, _, rfl, rfl⟩; refine ⟨?sub, ?_⟩; (case sub => (intro _ hp; first | exact hp | (cases hp; done) | (repeat (first | exact hp | apply List.mem_cons_of_mem | apply List.mem_append_right)) | (simp_all; done))))
        | ((first | refine KDM.eo30 rfl rfl (eo_store (i := 0) rfl rfl rfl rfl rfl rfl rfl rfl rfl rfl rfl) ?_ | refine KDM.eo30 rfl rfl (eo_store (i := 1) rfl rfl rfl rfl rfl rfl rfl rfl rfl rfl rfl) ?_ | refine KDM.eo30 rfl rfl (eo_store (i := 2) rfl rfl rfl rfl rfl rfl rfl rfl rfl rfl rfl) ?_ | refine KDM.eo30 rfl rfl (eo_store (i := 3) rfl rfl rfl rfl rfl rfl rfl rfl rfl rfl rfl) ?_ | refine KDM.eo30 rfl rfl (eo_store (i := 4) rfl rfl rfl rfl rfl rfl rfl rfl rfl rfl rfl) ?_ | refine KDM.eo30 rfl rfl (eo_store (i := 5) rfl rfl rfl rfl rfl rfl rfl rfl rfl rfl rfl) ?_ | refine KDM.eo30 rfl rfl (eo_store (i := 6) rfl rfl rfl rfl rfl rfl rfl rfl rfl rfl rfl) ?_ | refine KDM.eo30 rfl rfl (eo_store (i := 7) rfl rfl rfl rfl rfl rfl rfl rfl rfl rfl rfl) ?_); rintro _ _ rfl; refine ⟨?sub, ?_⟩; (case sub => (intro _ hp; first | exact hp | (cases hp; done) | (repeat (first | exact hp | apply List.mem_cons_of_mem | apply List.mem_append_right)) | (simp_all; done))))
        | refine KW.draw 0 (by decide +kernel) ?_
        | refine KW.drawU rfl (by decide +kernel) ?_
        | refine KD.zero ?_
        | ((first | apply KO.val rfl rfl rfl ?kq ?_ | apply KD.val rfl rfl rfl ?kq ?_ | apply KDH.val0 rfl rfl rfl ?kq ?_ | apply KDH.val1 rfl rfl rfl ?kq ?_ | apply KDH.valIn0 rfl rfl rfl ?kq ?_ | apply KDH.valIn1 rfl rfl rfl ?kq ?_ | apply KDM.q2f rfl rfl rfl ?kq ?ksub ?_ | apply KDM.q2t rfl rfl rfl ?kq ?ksub ?_); (try (case ksub => (intro _ hp; first | exact hp | (cases hp; done) | (repeat (first | exact hp | apply List.mem_cons_of_mem | apply List.mem_append_right)) | (simp_all; done)))); (case kq => ((first | ((first | apply qt_add rfl rfl rfl ?hi ?om | apply qt_sub rfl rfl rfl ?hi ?om | apply qt_mul rfl rfl rfl ?hi ?om | apply qt_remN rfl rfl rfl ?hi ?om | apply qt_quoN rfl rfl rfl ?hi ?om | apply qt_indexAddr_arr rfl rfl rfl ?hi rfl rfl ?om | apply qt_indexAddr_slice rfl rfl rfl ?hi rfl rfl ?om); (case om => (intro hg; first | omega | (simp only [Bool.or_eq_false_iff, Bool.or_eq_true, Bool.and_eq_true, Bool.and_eq_false_iff, Bool.not_eq_true', Bool.not_eq_false', Bool.not_eq_true, Bool.not_eq_false, decide_eq_true_eq, decide_eq_false_iff_not, Bool.not_not, beq_iff_eq, bne_iff_ne, Bool.beq_eq_decide_eq] at hg; omega)))) | apply qt_ev rfl ?hi | ((first | apply qt_load1 rfl rfl ?hi rfl rfl ?hm ?hc | apply qt_loadN rfl rfl ?hi rfl rfl rfl ?hm ?hc); (case hm => repeat (first | exact List.Mem.head _ | apply List.Mem.tail _ | apply List.mem_append_right _)); (case hc => rfl)) | apply qt_eqs rfl rfl rfl ?hi rfl (Or.inl rfl) | apply qt_nes rfl rfl rfl ?hi rfl (Or.inl rfl) | ((first | apply qt_quoT rfl rfl rfl ?hi ?om); (case om => (intro hg; first | omega | (simp only [Bool.or_eq_false_iff, Bool.or_eq_true, Bool.and_eq_true, Bool.and_eq_false_iff, Bool.not_eq_true', Bool.not_eq_false', Bool.not_eq_true, Bool.not_eq_false, decide_eq_true_eq, decide_eq_false_iff_not, Bool.not_not, beq_iff_eq, bne_iff_ne, Bool.beq_eq_decide_eq] at hg; omega)))) | ((first | apply qt_rem rfl rfl rfl ?hi ?om | apply qt_quo rfl rfl rfl ?hi ?om | apply qt_shl rfl rfl rfl ?hi ?om); (case om => (intro hg; first | omega | (simp only [Bool.or_eq_false_iff, Bool.or_eq_true, Bool.and_eq_true, Bool.and_eq_false_iff, Bool.not_eq_true', Bool.not_eq_false', Bool.not_eq_true, Bool.not_eq_false, decide_eq_true_eq, decide_eq_false_iff_not, Bool.not_not, beq_iff_eq, bne_iff_ne, Bool.beq_eq_decide_eq] at hg; omega))))); (case hi => (intro h; (repeat' (first | with_reducible exact alln | with_reducible refine allc ?_ ?_ | with_reducible refine andi ?_ ?_)); all_goals (first | with_reducible rfl | with_reducible exact h | with_reducible exact andl h | with_reducible exact andr h | with_reducible exact andl (andl h) | (simp only [h, Bool.and_self]; done) | (simp [h]; done) | (simp_all; done)))))))
        | (refine KO.box rfl rfl rfl rfl rfl rfl ?_; intro _ _)
        | (refine KO.alloc rfl rfl rfl rfl rfl rfl ?_; intro _ _)
        | ((first | apply KO.store (i := 0) rfl rfl rfl rfl rfl rfl rfl rfl ?hl rfl ?hw ?ho ?hs | apply KO.store (i := 1) rfl rfl rfl rfl rfl rfl rfl rfl ?hl rfl ?hw ?ho ?hs | apply KO.store (i := 2) rfl rfl rfl rfl rfl rfl rfl rfl ?hl rfl ?hw ?ho ?hs | apply KO.store (i := 3) rfl rfl rfl rfl rfl rfl rfl rfl ?hl rfl ?hw ?ho ?hs | apply KO.store (i := 4) rfl rfl rfl rfl rfl rfl rfl rfl ?hl rfl ?hw ?ho ?hs | apply KO.store (i := 5) rfl rfl rfl rfl rfl rfl rfl rfl ?hl rfl ?hw ?ho ?hs | apply KO.store (i := 6) rfl rfl rfl rfl rfl rfl rfl rfl ?hl rfl ?hw ?ho ?hs | apply KO.store (i := 7) rfl rfl rfl rfl rfl rfl rfl rfl ?hl rfl ?hw ?ho ?hs); (case hl => rfl); (case hw => rfl); (case ho => rfl); (case hs => rfl))
        | (refine KW.cond rfl ?_ ?_ <;> (intro hc; try simp only [Bool.or_eq_false_iff, Bool.or_eq_true, Bool.and_eq_true, Bool.and_eq_false_iff, Bool.not_eq_true', Bool.not_eq_false', Bool.not_eq_true, Bool.not_eq_false, decide_eq_true_eq, decide_eq_false_iff_not, Bool.not_not, beq_iff_eq, bne_iff_ne, Bool.beq_eq_decide_eq] at hc))
        | exact absurd trivial ‹¬True›
        | ((first | apply KO.val (g := true) rfl rfl rfl | apply KD.val (g := true) rfl rfl rfl | apply KDE.val (g := true) rfl rfl rfl | apply KDE.val rfl rfl rfl | apply KDH.val0 (g := true) rfl rfl rfl | apply KDH.val1 (g := true) rfl rfl rfl | apply KD.val rfl rfl rfl | apply KDH.val0 rfl rfl rfl); (apply qt_loadN_cel rfl rfl ?hi rfl rfl rfl ?hl ?hc); (case hc => first | exact fun _ => (hw0.mono (fun _ hq => by cases hq)) | exact fun _ => (hh1.mono (fun _ hq => by cases hq)) | exact fun hg => (hw0.mono (fun _ hq => by cases hq)) | exact fun hg => (hh1.mono (fun _ hq => by cases hq))); (case hl => rfl); (case hi => (first | exact fun _ => rfl | (intro h; first | rfl | exact h | (simp [h]; done) | (simp_all; done)))))
        | ((first | apply KO.val (g := true) rfl rfl rfl | apply KD.val (g := true) rfl rfl rfl | apply KDE.val (g := true) rfl rfl rfl | apply KDE.val rfl rfl rfl | apply KDH.val0 (g := true) rfl rfl rfl | apply KDH.val1 (g := true) rfl rfl rfl | apply KD.val rfl rfl rfl | apply KDH.val0 rfl rfl rfl); (apply qt_load1_cel rfl rfl ?hi rfl rfl ?hc); (case hc => first | exact fun _ => (hw0.mono (fun _ hq => by cases hq)) | exact fun _ => (hh1.mono (fun _ hq => by cases hq)) | exact fun hg => (hw0.mono (fun _ hq => by cases hq)) | exact fun hg => (hh1.mono (fun _ hq => by cases hq))); (case hi => (first | exact fun _ => rfl | (intro h; first | rfl | exact h | (simp [h]; done) | (simp_all; done)))))
        | ((first | apply KO.val (g := true) rfl rfl rfl | apply KD.val (g := true) rfl rfl rfl | apply KDE.val (g := true) rfl rfl rfl | apply KDE.val rfl rfl rfl | apply KDH.val0 (g := true) rfl rfl rfl | apply KDH.val1 (g := true) rfl rfl rfl | apply KD.val rfl rfl rfl | apply KDH.val0 rfl rfl rfl); (apply qt_loadN_cel rfl rfl ?hi rfl rfl rfl ?hl ?hc); (case hc => first | exact fun _ => (hw1.mono (fun _ hq => by cases hq)) | exact fun hg => (hw1.mono (fun _ hq => by cases hq))); (case hl => rfl); (case hi => (first | exact fun _ => rfl | (intro h; first | rfl | exact h | (simp [h]; done) | (simp_all; done)))))
        | ((first | apply KO.val (g := true) rfl rfl rfl | apply KD.val (g := true) rfl rfl rfl | apply KDE.val (g := true) rfl rfl rfl | apply KDE.val rfl rfl rfl | apply KDH.val0 (g := true) rfl rfl rfl | apply KDH.val1 (g := true) rfl rfl rfl | apply KD.val rfl rfl rfl | apply KDH.val0 rfl rfl rfl); (apply qt_load1_cel rfl rfl ?hi rfl rfl ?hc); (case hc => first | exact fun _ => (hw1.mono (fun _ hq => by cases hq)) | exact fun hg => (hw1.mono (fun _ hq => by cases hq))); (case hi => (first | exact fun _ => rfl | (intro h; first | rfl | exact h | (simp [h]; done) | (simp_all; done)))))
        | fail)
      rw [hc0]
      repeat' (first
        | refine KW.seq ?_
        | refine KW.region ?_
        | refine KO.nil ?_
        | refine At.then_normal ?_
        | refine KW.skip ?_
        | refine KW.ret ?_
        | refine At.then_ret ?_
        | refine KW.block ?_
        | refine KW.exit ?_
        | refine At.block_normal ?_
        | refine At.block_ret ?_
        | refine At.loop_ret ?_
        | refine At.then_exit ?_
        | refine At.block_here rfl ?_
        | refine At.block_there rfl ?_
        | refine At.loop_exit ?_
        | refine At.cut_ret ?_
        | refine At.cutA_ret ?_
        | refine At.cutA_exit ?_
        | refine At.cut_exit ?_
        | (refine At.cut_same ?_; repeat' (first | exact FLe.nil _ | refine FLe.cons rfl rfl ?_))
        | refine KW.cond_t rfl (by first | with_reducible rfl | decide) ?_
        | refine KW.cond_f rfl (by first | with_reducible rfl | decide) ?_
        | fail
        | refine KDH.mid2 ?_
        | refine KDH.mid3 ?_
        | refine KDH.done ?_
        | refine KDM.head0 ?_
        | refine KDM.head1 ?_
        | refine KDM.fin ?_
        | refine KDH.skip0' rfl (by first | with_reducible rfl | decide) rfl rfl ?_
        | refine KDH.skip1' rfl (by first | with_reducible rfl | decide) rfl rfl ?_
        | ((first | refine KDM.eo2f rfl rfl rfl (eo_alloc rfl rfl rfl) ?_ | refine KDM.eo2t rfl rfl rfl (eo_alloc rfl rfl rfl) ?_); rintro _ _ ⟨_, _, rfl, rfl⟩; refine ⟨?sub, ?_⟩; (case sub => (intro _ hp; first | exact hp | (cases hp; done) | (repeat (first | exact hp | apply List.mem_cons_of_mem | apply List.mem_append_right)) | (simp_all; done))))
        | ((first | refine KDM.eo2f rfl rfl rfl (eo_box rfl rfl rfl) ?_ | refine KDM.eo2t rfl rfl rfl (eo_box rfl rfl rfl) ?_); rintro _ _ ⟨_, _, rfl, rfl⟩; refine ⟨?sub, ?_⟩; (case sub => (intro _ hp; first | exact hp | (cases hp; done) | (repeat (first | exact hp | apply List.mem_cons_of_mem | apply List.mem_append_right)) | (simp_all; done))))
        | ((first | refine KDM.eo2f rfl rfl rfl (eo_buildSlice rfl rfl rfl rfl rfl rfl rfl rfl rfl rfl rfl) ?_ | refine KDM.eo2t rfl rfl rfl (eo_buildSlice rfl rfl rfl rfl rfl rfl rfl rfl rfl rfl rfl) ?_); rintro _ _ ⟨_, _, rfl, rfl⟩; refine ⟨?sub, ?_⟩; (case sub => (intro _ hp; first | exact hp | (cases hp; done) | (repeat (first | exact hp | apply List.mem_cons_of_mem | apply List.mem_append_right)) | (simp_all; done))))
        | ((first | refine KDM.eo30 rfl rfl (eo_store (i := 0) rfl rfl rfl rfl rfl rfl rfl rfl rfl rfl rfl) ?_ | refine KDM.eo30 rfl rfl (eo_store (i := 1) rfl rfl rfl rfl rfl rfl rfl rfl rfl rfl rfl) ?_ | refine KDM.eo30 rfl rfl (eo_store (i := 2) rfl rfl rfl rfl rfl rfl rfl rfl rfl rfl rfl) ?_ | refine KDM.eo30 rfl rfl (eo_store (i := 3) rfl rfl rfl rfl rfl rfl rfl rfl rfl rfl rfl) ?_ | refine KDM.eo30 rfl rfl (eo_store (i := 4) rfl rfl rfl rfl rfl rfl rfl rfl rfl rfl rfl) ?_ | refine KDM.eo30 rfl rfl (eo_store (i := 5) rfl rfl rfl rfl rfl rfl rfl rfl rfl rfl rfl) ?_ | refine KDM.eo30 rfl rfl (eo_store (i := 6) rfl rfl rfl rfl rfl rfl rfl rfl rfl rfl rfl) ?_ | refine KDM.eo30 rfl rfl (eo_store (i := 7) rfl rfl rfl rfl rfl rfl rfl rfl rfl rfl rfl) ?_); rintro _ _ rfl; refine ⟨?sub, ?_⟩; (case sub => (intro _ hp; first | exact hp | (cases hp; done) | (repeat (first | exact hp | apply List.mem_cons_of_mem | apply List.mem_append_right)) | (simp_all; done))))
        | refine KW.draw 0 (by decide +kernel) ?_
        | refine KW.drawU rfl (by decide +kernel) ?_
        | refine KD.zero ?_
        | ((first | apply KO.val rfl rfl rfl ?kq ?_ | apply KD.val rfl rfl rfl ?kq ?_ | apply KDH.val0 rfl rfl rfl ?kq ?_ | apply KDH.val1 rfl rfl rfl ?kq ?_ | apply KDH.valIn0 rfl rfl rfl ?kq ?_ | apply KDH.valIn1 rfl rfl rfl ?kq ?_ | apply KDM.q2f rfl rfl rfl ?kq ?ksub ?_ | apply KDM.q2t rfl rfl rfl ?kq ?ksub ?_); (try (case ksub => (intro _ hp; first | exact hp | (cases hp; done) | (repeat (first | exact hp | apply List.mem_cons_of_mem | apply List.mem_append_right)) | (simp_all; done)))); (case kq => ((first | ((first | apply qt_add rfl rfl rfl ?hi ?om | apply qt_sub rfl rfl rfl ?hi ?om | apply qt_mul rfl rfl rfl ?hi ?om | apply qt_remN rfl rfl rfl ?hi ?om | apply qt_quoN rfl rfl rfl ?hi ?om | apply qt_indexAddr_arr rfl rfl rfl ?hi rfl rfl ?om | apply qt_indexAddr_slice rfl rfl rfl ?hi rfl rfl ?om); (case om => (intro hg; first | omega | (simp only [Bool.or_eq_false_iff, Bool.or_eq_true, Bool.and_eq_true, Bool.and_eq_false_iff, Bool.not_eq_true', Bool.not_eq_false', Bool.not_eq_true, Bool.not_eq_false, decide_eq_true_eq, decide_eq_false_iff_not, Bool.not_not, beq_iff_eq, bne_iff_ne, Bool.beq_eq_decide_eq] at hg; omega)))) | apply qt_ev rfl ?hi | ((first | apply qt_load1 rfl rfl ?hi rfl rfl ?hm ?hc | apply qt_loadN rfl rfl ?hi rfl rfl rfl ?hm ?hc); (case hm => repeat (first | exact List.Mem.head _ | apply List.Mem.tail _ | apply List.mem_append_right _)); (case hc => rfl)) | apply qt_eqs rfl rfl rfl ?hi rfl (Or.inl rfl) | apply qt_nes rfl rfl rfl ?hi rfl (Or.inl rfl) | ((first | apply qt_quoT rfl rfl rfl ?hi ?om); (case om => (intro hg; first | omega | (simp only [Bool.or_eq_false_iff, Bool.or_eq_true, Bool.and_eq_true, Bool.and_eq_false_iff, Bool.not_eq_true', Bool.not_eq_false', Bool.not_eq_true, Bool.not_eq_false, decide_eq_true_eq, decide_eq_false_iff_not, Bool.not_not, beq_iff_eq, bne_iff_ne, Bool.beq_eq_decide_eq] at hg; omega)))) | ((first | apply qt_rem rfl rfl rfl ?hi ?om | apply qt_quo rfl rfl rfl ?hi ?om | apply qt_shl rfl rfl rfl ?hi ?om); (case om => (intro hg; first | omega | (simp only [Bool.or_eq_false_iff, Bool.or_eq_true, Bool.and_eq_true, Bool.and_eq_false_iff, Bool.not_eq_true', Bool.not_eq_false', Bool.not_eq_true, Bool.not_eq_false, decide_eq_true_eq, decide_eq_false_iff_not, Bool.not_not, beq_iff_eq, bne_iff_ne, Bool.beq_eq_decide_eq] at hg; omega))))); (case hi => (intro h; (repeat' (first | with_reducible exact alln | with_reducible refine allc ?_ ?_ | with_reducible refine andi ?_ ?_)); all_goals (first | with_reducible rfl | with_reducible exact h | with_reducible exact andl h | with_reducible exact andr h | with_reducible exact andl (andl h) | (simp only [h, Bool.and_self]; done) | (simp [h]; done) | (simp_all; done)))))))
        | (refine KO.box rfl rfl rfl rfl rfl rfl ?_; intro _ _)
        | (refine KO.alloc rfl rfl rfl rfl rfl rfl ?_; intro _ _)
        | ((first | apply KO.store (i := 0) rfl rfl rfl rfl rfl rfl rfl rfl ?hl rfl ?hw ?ho ?hs | apply KO.store (i := 1) rfl rfl rfl rfl rfl rfl rfl rfl ?hl rfl ?hw ?ho ?hs | apply KO.store (i := 2) rfl rfl rfl rfl rfl rfl rfl rfl ?hl rfl ?hw ?ho ?hs | apply KO.store (i := 3) rfl rfl rfl rfl rfl rfl rfl rfl ?hl rfl ?hw ?ho ?hs | apply KO.store (i := 4) rfl rfl rfl rfl rfl rfl rfl rfl ?hl rfl ?hw ?ho ?hs | apply KO.store (i := 5) rfl rfl rfl rfl rfl rfl rfl rfl ?hl rfl ?hw ?ho ?hs | apply KO.store (i := 6) rfl rfl rfl rfl rfl rfl rfl rfl ?hl rfl ?hw ?ho ?hs | apply KO.store (i := 7) rfl rfl rfl rfl rfl rfl rfl rfl ?hl rfl ?hw ?ho ?hs); (case hl => rfl); (case hw => rfl); (case ho => rfl); (case hs => rfl))
        | (refine KW.cond rfl ?_ ?_ <;> (intro hc; try simp only [Bool.or_eq_false_iff, Bool.or_eq_true, Bool.and_eq_true, Bool.and_eq_false_iff, Bool.not_eq_true', Bool.not_eq_false', Bool.not_eq_true, Bool.not_eq_false, decide_eq_true_eq, decide_eq_false_iff_not, Bool.not_not, beq_iff_eq, bne_iff_ne, Bool.beq_eq_decide_eq] at hc))
        | exact absurd trivial ‹¬True›
        | ((first | apply KO.val (g := true) rfl rfl rfl | apply KD.val (g := true) rfl rfl rfl | apply KDE.val (g := true) rfl rfl rfl | apply KDE.val rfl rfl rfl | apply KDH.val0 (g := true) rfl rfl rfl | apply KDH.val1 (g := true) rfl rfl rfl | apply KD.val rfl rfl rfl | apply KDH.val0 rfl rfl rfl); (apply qt_loadN_cel rfl rfl ?hi rfl rfl rfl ?hl ?hc); (case hc => first | exact fun _ => (hw0.mono (fun _ hq => by cases hq)) | exact fun _ => (hh1.mono (fun _ hq => by cases hq)) | exact fun hg => (hw0.mono (fun _ hq => by cases hq)) | exact fun hg => (hh1.mono (fun _ hq => by cases hq))); (case hl => rfl); (case hi => (first | exact fun _ => rfl | (intro h; first | rfl | exact h | (simp [h]; done) | (simp_all; done)))))
        | ((first | apply KO.val (g := true) rfl rfl rfl | apply KD.val (g := true) rfl rfl rfl | apply KDE.val (g := true) rfl rfl rfl | apply KDE.val rfl rfl rfl | apply KDH.val0 (g := true) rfl rfl rfl | apply KDH.val1 (g := true) rfl rfl rfl | apply KD.val rfl rfl rfl | apply KDH.val0 rfl rfl rfl); (apply qt_load1_cel rfl rfl ?hi rfl rfl ?hc); (case hc => first | exact fun _ => (hw0.mono (fun _ hq => by cases hq)) | exact fun _ => (hh1.mono (fun _ hq => by cases hq)) | exact fun hg => (hw0.mono (fun _ hq => by cases hq)) | exact fun hg => (hh1.mono (fun _ hq => by cases hq))); (case hi => (first | exact fun _ => rfl | (intro h; first | rfl | exact h | (simp [h]; done) | (simp_all; done)))))
        | ((first | apply KO.val (g := true) rfl rfl rfl | apply KD.val (g := true) rfl rfl rfl | apply KDE.val (g := true) rfl rfl rfl | apply KDE.val rfl rfl rfl | apply KDH.val0 (g := true) rfl rfl rfl | apply KDH.val1 (g := true) rfl rfl rfl | apply KD.val rfl rfl rfl | apply KDH.val0 rfl rfl rfl); (apply qt_loadN_cel rfl rfl ?hi rfl rfl rfl ?hl ?hc); (case hc => first | exact fun _ => (hw1.mono (fun _ hq => by cases hq)) | exact fun hg => (hw1.mono (fun _ hq => by cases hq))); (case hl => rfl); (case hi => (first | exact fun _ => rfl | (intro h; first | rfl | exact h | (simp [h]; done) | (simp_all; done)))))
        | ((first | apply KO.val (g := true) rfl rfl rfl | apply KD.val (g := true) rfl rfl rfl | apply KDE.val (g := true) rfl rfl rfl | apply KDE.val rfl rfl rfl | apply KDH.val0 (g := true) rfl rfl rfl | apply KDH.val1 (g := true) rfl rfl rfl | apply KD.val rfl rfl rfl | apply KDH.val0 rfl rfl rfl); (apply qt_load1_cel rfl rfl ?hi rfl rfl ?hc); (case hc => first | exact fun _ => (hw1.mono (fun _ hq => by cases hq)) | exact fun hg => (hw1.mono (fun _ hq => by cases hq))); (case hi => (first | exact fun _ => rfl | (intro h; first | rfl | exact h | (simp [h]; done) | (simp_all; done)))))
        | ((first | apply KO.val (g := true) rfl rfl rfl | apply KD.val (g := true) rfl rfl rfl | apply KDE.val (g := true) rfl rfl rfl | apply KDE.val rfl rfl rfl | apply KDH.val0 (g := true) rfl rfl rfl | apply KDH.val1 (g := true) rfl rfl rfl | apply KD.val rfl rfl rfl | apply KDH.val0 rfl rfl rfl); (apply qt_loadN_cel rfl rfl ?hi rfl rfl rfl ?hl ?hc); (case hc => first | exact fun _ => (Or.inl ⟨_, _, List.Mem.tail _ (List.Mem.tail _ (List.Mem.head _)), hget⟩) | exact fun hg => (Or.inl ⟨_, _, List.Mem.tail _ (List.Mem.tail _ (List.Mem.head _)), hget⟩)); (case hl => rfl); (case hi => (first | exact fun _ => rfl | (intro h; first | rfl | exact h | (simp [h]; done) | (simp_all; done)))))
        | ((first | apply KO.val (g := true) rfl rfl rfl | apply KD.val (g := true) rfl rfl rfl | apply KDE.val (g := true) rfl rfl rfl | apply KDE.val rfl rfl rfl | apply KDH.val0 (g := true) rfl rfl rfl | apply KDH.val1 (g := true) rfl rfl rfl | apply KD.val rfl rfl rfl | apply KDH.val0 rfl rfl rfl); (apply qt_load1_cel rfl rfl ?hi rfl rfl ?hc); (case hc => first | exact fun _ => (Or.inl ⟨_, _, List.Mem.tail _ (List.Mem.tail _ (List.Mem.head _)), hget⟩) | exact fun hg => (Or.inl ⟨_, _, List.Mem.tail _ (List.Mem.tail _ (List.Mem.head _)), hget⟩)); (case hi => (first | exact fun _ => rfl | (intro h; first | rfl | exact h | (simp [h]; done) | (simp_all; done)))))
        | fail)
      refine KO.storeW (i := 2) (vs := [_]) (cs' := bv8 (bytL (upd F i true) k)) rfl rfl rfl rfl rfl rfl rfl rfl rfl rfl ?_ rfl ?_
      · have h3 := wr_set (v := .int .u8 (Y8 (upd F i true) (i / 8) : Int)) (show i / 8 < (bv8 (bytL F k)).length by rw [bv8_len, bytL_len]; exact hik)
        rw [bv8_upd] at h3
        rw [hoff, or_raw8]; exact h3
      · skip
        repeat' (first
          | refine KW.seq ?_
          | refine KW.region ?_
          | refine KO.nil ?_
          | refine At.then_normal ?_
          | refine KW.skip ?_
          | refine KW.ret ?_
          | refine At.then_ret ?_
          | refine KW.block ?_
          | refine KW.exit ?_
          | refine At.block_normal ?_
          | refine At.block_ret ?_
          | refine At.loop_ret ?_
          | refine At.then_exit ?_
          | refine At.block_here rfl ?_
          | refine At.block_there rfl ?_
          | refine At.loop_exit ?_
          | refine At.cut_ret ?_
          | refine At.cutA_ret ?_
          | refine At.cutA_exit ?_
          | refine At.cut_exit ?_
          | (refine At.cut_same ?_; repeat' (first | exact FLe.nil _ | refine FLe.cons rfl rfl ?_))
          | refine KW.cond_t rfl (by first | with_reducible rfl | decide) ?_
          | refine KW.cond_f rfl (by first | with_reducible rfl | decide) ?_
          | fail
          | refine KDH.mid2 ?_
          | refine KDH.mid3 ?_
          | refine KDH.done ?_
          | refine KDM.head0 ?_
          | refine KDM.head1 ?_
          | refine KDM.fin ?_
          | refine KDH.skip0' rfl (by first | with_reducible rfl | decide) rfl rfl ?_
          | refine KDH.skip1' rfl (by first | with_reducible rfl | decide) rfl rfl ?_
          | ((first | refine KDM.eo2f rfl rfl rfl (eo_alloc rfl rfl rfl) ?_ | refine KDM.eo2t rfl rfl rfl (eo_alloc rfl rfl rfl) ?_); rintro _ _ ⟨_, _, rfl, rfl⟩; refine ⟨?sub, ?_⟩; (case sub => (intro _ hp; first | exact hp | (cases hp; done) | (repeat (first | exact hp | apply List.mem_cons_of_mem | apply List.mem_append_right)) | (simp_all; done))))
          | ((first | refine KDM.eo2f rfl rfl rfl (eo_box rfl rfl rfl) ?_ | refine KDM.eo2t rfl rfl rfl (eo_box rfl rfl rfl) ?_); rintro _ _ ⟨_, _, rfl, rfl⟩; refine ⟨?sub, ?_⟩; (case sub => (intro _ hp; first | exact hp | (cases hp; done) | (repeat (first | exact hp | apply List.mem_cons_of_mem | apply List.mem_append_right)) | (simp_all; done))))
          | ((first | refine KDM.eo2f rfl rfl rfl (eo_buildSlice rfl rfl rfl rfl rfl rfl rfl rfl rfl rfl rfl) ?_ | refine KDM.eo2t rfl rfl rfl (eo_buildSlice rfl rfl rfl rfl rfl rfl rfl rfl rfl rfl rfl) ?_); rintro _ _ ⟨_, _, rfl, rfl⟩; refine ⟨?sub, ?_⟩; (case sub => (intro _ hp; first | exact hp | (cases hp; done) | (repeat (first | exact hp | apply List.mem_cons_of_mem | apply List.mem_append_right)) | (simp_all; done))))
          | ((first | refine KDM.eo30 rfl rfl (eo_store (i := 0) rfl rfl rfl rfl rfl rfl rfl rfl rfl rfl rfl) ?_ | refine KDM.eo30 rfl rfl (eo_store (i := 1) rfl rfl rfl rfl rfl rfl rfl rfl rfl rfl rfl) ?_ | refine KDM.eo30 rfl rfl (eo_store (i := 2) rfl rfl rfl rfl rfl rfl rfl rfl rfl rfl rfl) ?_ | refine KDM.eo30 rfl rfl (eo_store (i := 3) rfl rfl rfl rfl rfl rfl rfl rfl rfl rfl rfl) ?_ | refine KDM.eo30 rfl rfl (eo_store (i := 4) rfl rfl rfl rfl rfl rfl rfl rfl rfl rfl rfl) ?_ | refine KDM.eo30 rfl rfl (eo_store (i := 5) rfl rfl rfl rfl rfl rfl rfl rfl rfl rfl rfl) ?_ | refine KDM.eo30 rfl rfl (eo_store (i := 6) rfl rfl rfl rfl rfl rfl rfl rfl rfl rfl rfl) ?_ | refine KDM.eo30 rfl rfl (eo_store (i := 7) rfl rfl rfl rfl rfl rfl rfl rfl rfl rfl rfl) ?_); rintro _ _ rfl; refine ⟨?sub, ?_⟩; (case sub => (intro _ hp; first | exact hp | (cases hp; done) | (repeat (first | exact hp | apply List.mem_cons_of_mem | apply List.mem_append_right)) | (simp_all; done))))
          | refine KW.draw 0 (by decide +kernel) ?_
          | refine KW.drawU rfl (by decide +kernel) ?_
          | refine KD.zero ?_
          | ((first | apply KO.val rfl rfl rfl ?kq ?_ | apply KD.val rfl rfl rfl ?kq ?_ | apply KDH.val0 rfl rfl rfl ?kq ?_ | apply KDH.val1 rfl rfl rfl ?kq ?_ | apply KDH.valIn0 rfl rfl rfl ?kq ?_ | apply KDH.valIn1 rfl rfl rfl ?kq ?_ | apply KDM.q2f rfl rfl rfl ?kq ?ksub ?_ | apply KDM.q2t rfl rfl rfl ?kq ?ksub ?_); (try (case ksub => (intro _ hp; first | exact hp | (cases hp; done) | (repeat (first | exact hp | apply List.mem_cons_of_mem | apply List.mem_append_right)) | (simp_all; done)))); (case kq => ((first | ((first | apply qt_add rfl rfl rfl ?hi ?om | apply qt_sub rfl rfl rfl ?hi ?om | apply qt_mul rfl rfl rfl ?hi ?om | apply qt_remN rfl rfl rfl ?hi ?om | apply qt_quoN rfl rfl rfl ?hi ?om | apply qt_indexAddr_arr rfl rfl rfl ?hi rfl rfl ?om | apply qt_indexAddr_slice rfl rfl rfl ?hi rfl rfl ?om); (case om => (intro hg; first | omega | (simp only [Bool.or_eq_false_iff, Bool.or_eq_true, Bool.and_eq_true, Bool.and_eq_false_iff, Bool.not_eq_true', Bool.not_eq_false', Bool.not_eq_true, Bool.not_eq_false, decide_eq_true_eq, decide_eq_false_iff_not, Bool.not_not, beq_iff_eq, bne_iff_ne, Bool.beq_eq_decide_eq] at hg; omega)))) | apply qt_ev rfl ?hi | ((first | apply qt_load1 rfl rfl ?hi rfl rfl ?hm ?hc | apply qt_loadN rfl rfl ?hi rfl rfl rfl ?hm ?hc); (case hm => repeat (first | exact List.Mem.head _ | apply List.Mem.tail _ | apply List.mem_append_right _)); (case hc => rfl)) | apply qt_eqs rfl rfl rfl ?hi rfl (Or.inl rfl) | apply qt_nes rfl rfl rfl ?hi rfl (Or.inl rfl) | ((first | apply qt_quoT rfl rfl rfl ?hi ?om); (case om => (intro hg; first | omega | (simp only [Bool.or_eq_false_iff, Bool.or_eq_true, Bool.and_eq_true, Bool.and_eq_false_iff, Bool.not_eq_true', Bool.not_eq_false', Bool.not_eq_true, Bool.not_eq_false, decide_eq_true_eq, decide_eq_false_iff_not, Bool.not_not, beq_iff_eq, bne_iff_ne, Bool.beq_eq_decide_eq] at hg; omega)))) | ((first | apply qt_rem rfl rfl rfl ?hi ?om | apply qt_quo rfl rfl rfl ?hi ?om | apply qt_shl rfl rfl rfl ?hi ?om); (case om => (intro hg; first | omega | (simp only [Bool.or_eq_false_iff, Bool.or_eq_true, Bool.and_eq_true, Bool.and_eq_false_iff, Bool.not_eq_true', Bool.not_eq_false', Bool.not_eq_true, Bool.not_eq_false, decide_eq_true_eq, decide_eq_false_iff_not, Bool.not_not, beq_iff_eq, bne_iff_ne, Bool.beq_eq_decide_eq] at hg; omega))))); (case hi => (intro h; (repeat' (first | with_reducible exact alln | with_reducible refine allc ?_ ?_ | with_reducible refine andi ?_ ?_)); all_goals (first | with_reducible rfl | with_reducible exact h | with_reducible exact andl h | with_reducible exact andr h | with_reducible exact andl (andl h) | (simp only [h, Bool.and_self]; done) | (simp [h]; done) | (simp_all; done)))))))
          | (refine KO.box rfl rfl rfl rfl rfl rfl ?_; intro _ _)
          | (refine KO.alloc rfl rfl rfl rfl rfl rfl ?_; intro _ _)
          | ((first | apply KO.store (i := 0) rfl rfl rfl rfl rfl rfl rfl rfl ?hl rfl ?hw ?ho ?hs | apply KO.store (i := 1) rfl rfl rfl rfl rfl rfl rfl rfl ?hl rfl ?hw ?ho ?hs | apply KO.store (i := 2) rfl rfl rfl rfl rfl rfl rfl rfl ?hl rfl ?hw ?ho ?hs | apply KO.store (i := 3) rfl rfl rfl rfl rfl rfl rfl rfl ?hl rfl ?hw ?ho ?hs | apply KO.store (i := 4) rfl rfl rfl rfl rfl rfl rfl rfl ?hl rfl ?hw ?ho ?hs | apply KO.store (i := 5) rfl rfl rfl rfl rfl rfl rfl rfl ?hl rfl ?hw ?ho ?hs | apply KO.store (i := 6) rfl rfl rfl rfl rfl rfl rfl rfl ?hl rfl ?hw ?ho ?hs | apply KO.store (i := 7) rfl rfl rfl rfl rfl rfl rfl rfl ?hl rfl ?hw ?ho ?hs); (case hl => rfl); (case hw => rfl); (case ho => rfl); (case hs => rfl))
          | (refine KW.cond rfl ?_ ?_ <;> (intro hc; try simp only [Bool.or_eq_false_iff, Bool.or_eq_true, Bool.and_eq_true, Bool.and_eq_false_iff, Bool.not_eq_true', Bool.not_eq_false', Bool.not_eq_true, Bool.not_eq_false, decide_eq_true_eq, decide_eq_false_iff_not, Bool.not_not, beq_iff_eq, bne_iff_ne, Bool.beq_eq_decide_eq] at hc))
          | exact absurd trivial ‹¬True›
          | ((first | apply KO.val (g := true) rfl rfl rfl | apply KD.val (g := true) rfl rfl rfl | apply KDE.val (g := true) rfl rfl rfl | apply KDE.val rfl rfl rfl | apply KDH.val0 (g := true) rfl rfl rfl | apply KDH.val1 (g := true) rfl rfl rfl | apply KD.val rfl rfl rfl | apply KDH.val0 rfl rfl rfl); (apply qt_loadN_cel rfl rfl ?hi rfl rfl rfl ?hl ?hc); (case hc => first | exact fun _ => (hw0.mono (fun _ hq => by cases hq)) | exact fun _ => (hh1.mono (fun _ hq => by cases hq)) | exact fun hg => (hw0.mono (fun _ hq => by cases hq)) | exact fun hg => (hh1.mono (fun _ hq => by cases hq))); (case hl => rfl); (case hi => (first | exact fun _ => rfl | (intro h; first | rfl | exact h | (simp [h]; done) | (simp_all; done)))))
          | ((first | apply KO.val (g := true) rfl rfl rfl | apply KD.val (g := true) rfl rfl rfl | apply KDE.val (g := true) rfl rfl rfl | apply KDE.val rfl rfl rfl | apply KDH.val0 (g := true) rfl rfl rfl | apply KDH.val1 (g := true) rfl rfl rfl | apply KD.val rfl rfl rfl | apply KDH.val0 rfl rfl rfl); (apply qt_load1_cel rfl rfl ?hi rfl rfl ?hc); (case hc => first | exact fun _ => (hw0.mono (fun _ hq => by cases hq)) | exact fun _ => (hh1.mono (fun _ hq => by cases hq)) | exact fun hg => (hw0.mono (fun _ hq => by cases hq)) | exact fun hg => (hh1.mono (fun _ hq => by cases hq))); (case hi => (first | exact fun _ => rfl | (intro h; first | rfl | exact h | (simp [h]; done) | (simp_all; done)))))
          | ((first | apply KO.val (g := true) rfl rfl rfl | apply KD.val (g := true) rfl rfl rfl | apply KDE.val (g := true) rfl rfl rfl | apply KDE.val rfl rfl rfl | apply KDH.val0 (g := true) rfl rfl rfl | apply KDH.val1 (g := true) rfl rfl rfl | apply KD.val rfl rfl rfl | apply KDH.val0 rfl rfl rfl); (apply qt_loadN_cel rfl rfl ?hi rfl rfl rfl ?hl ?hc); (case hc => first | exact fun _ => (hw1.mono (fun _ hq => by cases hq)) | exact fun hg => (hw1.mono (fun _ hq => by cases hq))); (case hl => rfl); (case hi => (first | exact fun _ => rfl | (intro h; first | rfl | exact h | (simp [h]; done) | (simp_all; done)))))
          | ((first | apply KO.val (g := true) rfl rfl rfl | apply KD.val (g := true) rfl rfl rfl | apply KDE.val (g := true) rfl rfl rfl | apply KDE.val rfl rfl rfl | apply KDH.val0 (g := true) rfl rfl rfl | apply KDH.val1 (g := true) rfl rfl rfl | apply KD.val rfl rfl rfl | apply KDH.val0 rfl rfl rfl); (apply qt_load1_cel rfl rfl ?hi rfl rfl ?hc); (case hc => first | exact fun _ => (hw1.mono (fun _ hq => by cases hq)) | exact fun hg => (hw1.mono (fun _ hq => by cases hq))); (case hi => (first | exact fun _ => rfl | (intro h; first | rfl | exact h | (simp [h]; done) | (simp_all; done)))))
          | ((first | apply KO.val (g := true) rfl rfl rfl | apply KD.val (g := true) rfl rfl rfl | apply KDE.val (g := true) rfl rfl rfl | apply KDE.val rfl rfl rfl | apply KDH.val0 (g := true) rfl rfl rfl | apply KDH.val1 (g := true) rfl rfl rfl | apply KD.val rfl rfl rfl | apply KDH.val0 rfl rfl rfl); (apply qt_loadN_cel rfl rfl ?hi rfl rfl rfl ?hl ?hc); (case hc => first | exact fun _ => (Or.inl ⟨_, _, List.Mem.tail _ (List.Mem.tail _ (List.Mem.head _)), hget⟩) | exact fun hg => (Or.inl ⟨_, _, List.Mem.tail _ (List.Mem.tail _ (List.Mem.head _)), hget⟩)); (case hl => rfl); (case hi => (first | exact fun _ => rfl | (intro h; first | rfl | exact h | (simp [h]; done) | (simp_all; done)))))
          | ((first | apply KO.val (g := true) rfl rfl rfl | apply KD.val (g := true) rfl rfl rfl | apply KDE.val (g := true) rfl rfl rfl | apply KDE.val rfl rfl rfl | apply KDH.val0 (g := true) rfl rfl rfl | apply KDH.val1 (g := true) rfl rfl rfl | apply KD.val rfl rfl rfl | apply KDH.val0 rfl rfl rfl); (apply qt_load1_cel rfl rfl ?hi rfl rfl ?hc); (case hc => first | exact fun _ => (Or.inl ⟨_, _, List.Mem.tail _ (List.Mem.tail _ (List.Mem.head _)), hget⟩) | exact fun hg => (Or.inl ⟨_, _, List.Mem.tail _ (List.Mem.tail _ (List.Mem.head _)), hget⟩)); (case hi => (first | exact fun _ => rfl | (intro h; first | rfl | exact h | (simp [h]; done) | (simp_all; done)))))
          | fail)
        refine At.round_normal _ (List.Sublist.cons _ (List.Sublist.refl _)) ?_
        rw [hupd]
    · rintro σ' rfl
      rw [List.length_map, celL_len]
      repeat' (first
        | refine KW.seq ?_
        | refine KW.region ?_
        | refine KO.nil ?_
        | refine At.then_normal ?_
        | refine KW.skip ?_
        | refine KW.ret ?_
        | refine At.then_ret ?_
        | refine KW.block ?_
        | refine KW.exit ?_
        | refine At.block_normal ?_
        | refine At.block_ret ?_
        | refine At.loop_ret ?_
        | refine At.then_exit ?_
        | refine At.block_here rfl ?_
        | refine At.block_there rfl ?_
        | refine At.loop_exit ?_
        | refine At.cut_ret ?_
        | refine At.cutA_ret ?_
        | refine At.cutA_exit ?_
        | refine At.cut_exit ?_
        | (refine At.cut_same ?_; repeat' (first | exact FLe.nil _ | refine FLe.cons rfl rfl ?_))
        | refine KW.cond_t rfl (by first | with_reducible rfl | decide) ?_
        | refine KW.cond_f rfl (by first | with_reducible rfl | decide) ?_
        | fail
        | refine KDH.mid2 ?_
        | refine KDH.mid3 ?_
        | refine KDH.done ?_
        | refine KDM.head0 ?_
        | refine KDM.head1 ?_
        | refine KDM.fin ?_
        | refine KDH.skip0' rfl (by first | with_reducible rfl | decide) rfl rfl ?_
        | refine KDH.skip1' rfl (by first | with_reducible rfl | decide) rfl rfl ?_
        | ((first | refine KDM.eo2f rfl rfl rfl (eo_alloc rfl rfl rfl) ?_ | refine KDM.eo2t rfl rfl rfl (eo_alloc rfl rfl rfl) ?_); rintro _ _ ⟨_, _, rfl, rfl⟩; refine ⟨?sub, ?_⟩; (case sub => (intro _ hp; first | exact hp | (cases hp; done) | (repeat (first | exact hp | apply List.mem_cons_of_mem | apply List.mem_append_right)) | (simp_all; done))))
        | ((first | refine KDM.eo2f rfl rfl rfl (eo_box rfl rfl rfl) ?_ | refine KDM.eo2t rfl rfl rfl (eo_box rfl rfl rfl) ?_); rintro _ _ ⟨_, _, rfl, rfl⟩; refine ⟨?sub, ?_⟩; (case sub => (intro _ hp; first | exact hp | (cases hp; done) | (repeat (first | exact hp | apply List.mem_cons_of_mem | apply List.mem_append_right)) | (simp_all; done))))
        | ((first | refine KDM.eo2f rfl rfl rfl (eo_buildSlice rfl rfl rfl rfl rfl rfl rfl rfl rfl rfl rfl) ?_ | refine KDM.eo2t rfl rfl rfl (eo_buildSlice rfl rfl rfl rfl rfl rfl rfl rfl rfl rfl rfl) ?_); rintro _ _ ⟨_, _, rfl, rfl⟩; refine ⟨?sub, ?_⟩; (case sub => (intro _ hp; first | exact hp | (cases hp; done) | (repeat (first | exact hp | apply List.mem_cons_of_mem | apply List.mem_append_right)) | (simp_all; done))))
        | ((first | refine KDM.eo30 rfl rfl (eo_store (i := 0) rfl rfl rfl rfl rfl rfl rfl rfl rfl rfl rfl) ?_ | refine KDM.eo30 rfl rfl (eo_store (i := 1) rfl rfl rfl rfl rfl rfl rfl rfl rfl rfl rfl) ?_ | refine KDM.eo30 rfl rfl (eo_store (i := 2) rfl rfl rfl rfl rfl rfl rfl rfl rfl rfl rfl) ?_ | refine KDM.eo30 rfl rfl (eo_store (i := 3) rfl rfl rfl rfl rfl rfl rfl rfl rfl rfl rfl) ?_ | refine KDM.eo30 rfl rfl (eo_store (i := 4) rfl rfl rfl rfl rfl rfl rfl rfl rfl rfl rfl) ?_ | refine KDM.eo30 rfl rfl (eo_store (i := 5) rfl rfl rfl rfl rfl rfl rfl rfl rfl rfl rfl) ?_ | refine KDM.eo30 rfl rfl (eo_store (i := 6) rfl rfl rfl rfl rfl rfl rfl rfl rfl rfl rfl) ?_ | refine KDM.eo30 rfl rfl (eo_store (i := 7) rfl rfl rfl rfl rfl rfl rfl rfl rfl rfl rfl) ?_); rintro _ _ rfl; refine ⟨?sub, ?_⟩; (case sub => (intro _ hp; first | exact hp | (cases hp; done) | (repeat (first | exact hp | apply List.mem_cons_of_mem | apply List.mem_append_right)) | (simp_all; done))))
        | refine KW.draw 0 (by decide +kernel) ?_
        | refine KW.drawU rfl (by decide +kernel) ?_
        | refine KD.zero ?_
        | ((first | apply KO.val rfl rfl rfl ?kq ?_ | apply KD.val rfl rfl rfl ?kq ?_ | apply KDH.val0 rfl rfl rfl ?kq ?_ | apply KDH.val1 rfl rfl rfl ?kq ?_ | apply KDH.valIn0 rfl rfl rfl ?kq ?_ | apply KDH.valIn1 rfl rfl rfl ?kq ?_ | apply KDM.q2f rfl rfl rfl ?kq ?ksub ?_ | apply KDM.q2t rfl rfl rfl ?kq ?ksub ?_); (try (case ksub => (intro _ hp; first | exact hp | (cases hp; done) | (repeat (first | exact hp | apply List.mem_cons_of_mem | apply List.mem_append_right)) | (simp_all; done)))); (case kq => ((first | ((first | apply qt_add rfl rfl rfl ?hi ?om | apply qt_sub rfl rfl rfl ?hi ?om | apply qt_mul rfl rfl rfl ?hi ?om | apply qt_remN rfl rfl rfl ?hi ?om | apply qt_quoN rfl rfl rfl ?hi ?om | apply qt_indexAddr_arr rfl rfl rfl ?hi rfl rfl ?om | apply qt_indexAddr_slice rfl rfl rfl ?hi rfl rfl ?om); (case om => (intro hg; first | omega | (simp only [Bool.or_eq_false_iff, Bool.or_eq_true, Bool.and_eq_true, Bool.and_eq_false_iff, Bool.not_eq_true', Bool.not_eq_false', Bool.not_eq_true, Bool.not_eq_false, decide_eq_true_eq, decide_eq_false_iff_not, Bool.not_not, beq_iff_eq, bne_iff_ne, Bool.beq_eq_decide_eq] at hg; omega)))) | apply qt_ev rfl ?hi | ((first | apply qt_load1 rfl rfl ?hi rfl rfl ?hm ?hc | apply qt_loadN rfl rfl ?hi rfl rfl rfl ?hm ?hc); (case hm => repeat (first | exact List.Mem.head _ | apply List.Mem.tail _ | apply List.mem_append_right _)); (case hc => rfl)) | apply qt_eqs rfl rfl rfl ?hi rfl (Or.inl rfl) | apply qt_nes rfl rfl rfl ?hi rfl (Or.inl rfl) | ((first | apply qt_quoT rfl rfl rfl ?hi ?om); (case om => (intro hg; first | omega | (simp only [Bool.or_eq_false_iff, Bool.or_eq_true, Bool.and_eq_true, Bool.and_eq_false_iff, Bool.not_eq_true', Bool.not_eq_false', Bool.not_eq_true, Bool.not_eq_false, decide_eq_true_eq, decide_eq_false_iff_not, Bool.not_not, beq_iff_eq, bne_iff_ne, Bool.beq_eq_decide_eq] at hg; omega)))) | ((first | apply qt_rem rfl rfl rfl ?hi ?om | apply qt_quo rfl rfl rfl ?hi ?om | apply qt_shl rfl rfl rfl ?hi ?om); (case om => (intro hg; first | omega | (simp only [Bool.or_eq_false_iff, Bool.or_eq_true, Bool.and_eq_true, Bool.and_eq_false_iff, Bool.not_eq_true', Bool.not_eq_false', Bool.not_eq_true, Bool.not_eq_false, decide_eq_true_eq, decide_eq_false_iff_not, Bool.not_not, beq_iff_eq, bne_iff_ne, Bool.beq_eq_decide_eq] at hg; omega))))); (case hi => (intro h; (repeat' (first | with_reducible exact alln | with_reducible refine allc ?_ ?_ | with_reducible refine andi ?_ ?_)); all_goals (first | with_reducible rfl | with_reducible exact h | with_reducible exact andl h | with_reducible exact andr h | with_reducible exact andl (andl h) | (simp only [h, Bool.and_self]; done) | (simp [h]; done) | (simp_all; done)))))))
        | (refine KO.box rfl rfl rfl rfl rfl rfl ?_; intro _ _)
        | (refine KO.alloc rfl rfl rfl rfl rfl rfl ?_; intro _ _)
        | ((first | apply KO.store (i := 0) rfl rfl rfl rfl rfl rfl rfl rfl ?hl rfl ?hw ?ho ?hs | apply KO.store (i := 1) rfl rfl rfl rfl rfl rfl rfl rfl ?hl rfl ?hw ?ho ?hs | apply KO.store (i := 2) rfl rfl rfl rfl rfl rfl rfl rfl ?hl rfl ?hw ?ho ?hs | apply KO.store (i := 3) rfl rfl rfl rfl rfl rfl rfl rfl ?hl rfl ?hw ?ho ?hs | apply KO.store (i := 4) rfl rfl rfl rfl rfl rfl rfl rfl ?hl rfl ?hw ?ho ?hs | apply KO.store (i := 5) rfl rfl rfl rfl rfl rfl rfl rfl ?hl rfl ?hw ?ho ?hs | apply KO.store (i := 6) rfl rfl rfl rfl rfl rfl rfl rfl ?hl rfl ?hw ?ho ?hs | apply KO.store (i := 7) rfl rfl rfl rfl rfl rfl rfl rfl ?hl rfl ?hw ?ho ?hs); (case hl => rfl); (case hw => rfl); (case ho => rfl); (case hs => rfl))
        | (refine KW.cond rfl ?_ ?_ <;> (intro hc; try simp only [Bool.or_eq_false_iff, Bool.or_eq_true, Bool.and_eq_true, Bool.and_eq_false_iff, Bool.not_eq_true', Bool.not_eq_false', Bool.not_eq_true, Bool.not_eq_false, decide_eq_true_eq, decide_eq_false_iff_not, Bool.not_not, beq_iff_eq, bne_iff_ne, Bool.beq_eq_decide_eq] at hc))
        | exact absurd trivial ‹¬True›
        | ((first | apply KO.val (g := true) rfl rfl rfl | apply KD.val (g := true) rfl rfl rfl | apply KDE.val (g := true) rfl rfl rfl | apply KDE.val rfl rfl rfl | apply KDH.val0 (g := true) rfl rfl rfl | apply KDH.val1 (g := true) rfl rfl rfl | apply KD.val rfl rfl rfl | apply KDH.val0 rfl rfl rfl); (apply qt_loadN_cel rfl rfl ?hi rfl rfl rfl ?hl ?hc); (case hc => first | exact fun _ => (hw0.mono (fun _ hq => by cases hq)) | exact fun _ => (hh1.mono (fun _ hq => by cases hq)) | exact fun hg => (hw0.mono (fun _ hq => by cases hq)) | exact fun hg => (hh1.mono (fun _ hq => by cases hq))); (case hl => rfl); (case hi => (first | exact fun _ => rfl | (intro h; first | rfl | exact h | (simp [h]; done) | (simp_all; done)))))
        | ((first | apply KO.val (g := true) rfl rfl rfl | apply KD.val (g := true) rfl rfl rfl | apply KDE.val (g := true) rfl rfl rfl | apply KDE.val rfl rfl rfl | apply KDH.val0 (g := true) rfl rfl rfl | apply KDH.val1 (g := true) rfl rfl rfl | apply KD.val rfl rfl rfl | apply KDH.val0 rfl rfl rfl); (apply qt_load1_cel rfl rfl ?hi rfl rfl ?hc); (case hc => first | exact fun _ => (hw0.mono (fun _ hq => by cases hq)) | exact fun _ => (hh1.mono (fun _ hq => by cases hq)) | exact fun hg => (hw0.mono (fun _ hq => by cases hq)) | exact fun hg => (hh1.mono (fun _ hq => by cases hq))); (case hi => (first | exact fun _ => rfl | (intro h; first | rfl | exact h | (simp [h]; done) | (simp_all; done)))))
        | ((first | apply KO.val (g := true) rfl rfl rfl | apply KD.val (g := true) rfl rfl rfl | apply KDE.val (g := true) rfl rfl rfl | apply KDE.val rfl rfl rfl | apply KDH.val0 (g := true) rfl rfl rfl | apply KDH.val1 (g := true) rfl rfl rfl | apply KD.val rfl rfl rfl | apply KDH.val0 rfl rfl rfl); (apply qt_loadN_cel rfl rfl ?hi rfl rfl rfl ?hl ?hc); (case hc => first | exact fun _ => (hw1.mono (fun _ hq => by cases hq)) | exact fun hg => (hw1.mono (fun _ hq => by cases hq))); (case hl => rfl); (case hi => (first | exact fun _ => rfl | (intro h; first | rfl | exact h | (simp [h]; done) | (simp_all; done)))))
        | ((first | apply KO.val (g := true) rfl rfl rfl | apply KD.val (g := true) rfl rfl rfl | apply KDE.val (g := true) rfl rfl rfl | apply KDE.val rfl rfl rfl | apply KDH.val0 (g := true) rfl rfl rfl | apply KDH.val1 (g := true) rfl rfl rfl | apply KD.val rfl rfl rfl | apply KDH.val0 rfl rfl rfl); (apply qt_load1_cel rfl rfl ?hi rfl rfl ?hc); (case hc => first | exact fun _ => (hw1.mono (fun _ hq => by cases hq)) | exact fun hg => (hw1.mono (fun _ hq => by cases hq))); (case hi => (first | exact fun _ => rfl | (intro h; first | rfl | exact h | (simp [h]; done) | (simp_all; done)))))
        | ((first | apply KO.val (g := true) rfl rfl rfl | apply KD.val (g := true) rfl rfl rfl | apply KDE.val (g := true) rfl rfl rfl | apply KDE.val rfl rfl rfl | apply KDH.val0 (g := true) rfl rfl rfl | apply KDH.val1 (g := true) rfl rfl rfl | apply KD.val rfl rfl rfl | apply KDH.val0 rfl rfl rfl); (apply qt_loadN_cel rfl rfl ?hi rfl rfl rfl ?hl ?hc); (case hc => first | exact fun _ => (Or.inl ⟨_, _, List.Mem.tail _ (List.Mem.tail _ (List.Mem.head _)), hget⟩) | exact fun hg => (Or.inl ⟨_, _, List.Mem.tail _ (List.Mem.tail _ (List.Mem.head _)), hget⟩)); (case hl => rfl); (case hi => (first | exact fun _ => rfl | (intro h; first | rfl | exact h | (simp [h]; done) | (simp_all; done)))))
        | ((first | apply KO.val (g := true) rfl rfl rfl | apply KD.val (g := true) rfl rfl rfl | apply KDE.val (g := true) rfl rfl rfl | apply KDE.val rfl rfl rfl | apply KDH.val0 (g := true) rfl rfl rfl | apply KDH.val1 (g := true) rfl rfl rfl | apply KD.val rfl rfl rfl | apply KDH.val0 rfl rfl rfl); (apply qt_load1_cel rfl rfl ?hi rfl rfl ?hc); (case hc => first | exact fun _ => (Or.inl ⟨_, _, List.Mem.tail _ (List.Mem.tail _ (List.Mem.head _)), hget⟩) | exact fun hg => (Or.inl ⟨_, _, List.Mem.tail _ (List.Mem.tail _ (List.Mem.head _)), hget⟩)); (case hi => (first | exact fun _ => rfl | (intro h; first | rfl | exact h | (simp [h]; done) | (simp_all; done)))))
        | fail)
      ((first | apply At.done_ret | apply At.done_normal); (focus (repeat' (first | exact ResVs.nil' | apply ResVs.cons' | exact ResV.tmp' rfl | (apply ResV.cell1 rfl ?hm rfl rfl ?hc; (case hm => repeat (first | exact List.Mem.head _ | apply List.Mem.tail _ | apply List.mem_append_right _)); (case hc => rfl)) | (apply ResV.cellN rfl ?hm rfl rfl rfl ?hc; (case hm => repeat (first | exact List.Mem.head _ | apply List.Mem.tail _ | apply List.mem_append_right _)); (case hc => rfl))))); dsimp only [resVal])
      have hln : (numL f (64 * nw)).length = cntB f (64 * nw) := by rw [← celL_len w, celL_num, List.length_map]
      rw [List.take_of_length_le (by omega), updL_full hnn]
      exact ⟨[(br, cl (by8 (bytL f k)) 5)], List.Sublist.cons _ (List.Sublist.cons_cons _ (List.nil_sublist _)), br, rfl, rfl⟩
    · rintro e σ' he h
      exact h.elim
  · skip
    repeat' (first
      | refine KW.seq ?_
      | refine KW.region ?_
      | refine KO.nil ?_
      | refine At.then_normal ?_
      | refine KW.skip ?_
      | refine KW.ret ?_
      | refine At.then_ret ?_
      | refine KW.block ?_
      | refine KW.exit ?_
      | refine At.block_normal ?_
      | refine At.block_ret ?_
      | refine At.loop_ret ?_
      | refine At.then_exit ?_
      | refine At.block_here rfl ?_
      | refine At.block_there rfl ?_
      | refine At.loop_exit ?_
      | refine At.cut_ret ?_
      | refine At.cutA_ret ?_
      | refine At.cutA_exit ?_
      | refine At.cut_exit ?_
      | (refine At.cut_same ?_; repeat' (first | exact FLe.nil _ | refine FLe.cons rfl rfl ?_))
      | refine KW.cond_t rfl (by first | with_reducible rfl | decide) ?_
      | refine KW.cond_f rfl (by first | with_reducible rfl | decide) ?_
      | fail
      | refine KDH.mid2 ?_
      | refine KDH.mid3 ?_
      | refine KDH.done ?_
      | refine KDM.head0 ?_
      | refine KDM.head1 ?_
      | refine KDM.fin ?_
      | refine KDH.skip0' rfl (by first | with_reducible rfl | decide) rfl rfl ?_
      | refine KDH.skip1' rfl (by first | with_reducible rfl | decide) rfl rfl ?_
      | ((first | refine KDM.eo2f rfl rfl rfl (eo_alloc rfl rfl rfl) ?_ | refine KDM.eo2t rfl rfl rfl (eo_alloc rfl rfl rfl) ?_); rintro _ _ ⟨_, _, rfl, rfl⟩; refine ⟨?sub, ?_⟩; (case sub => (intro _ hp; first | exact hp | (cases hp; done) | (repeat (first | exact hp | apply List.mem_cons_of_mem | apply List.mem_append_right)) | (simp_all; done))))
      | ((first | refine KDM.eo2f rfl rfl rfl (eo_box rfl rfl rfl) ?_ | refine KDM.eo2t rfl rfl rfl (eo_box rfl rfl rfl) ?_); rintro _ _ ⟨_, _, rfl, rfl⟩; refine ⟨?sub, ?_⟩; (case sub => (intro _ hp; first | exact hp | (cases hp; done) | (repeat (first | exact hp | apply List.mem_cons_of_mem | apply List.mem_append_right)) | (simp_all; done))))
      | ((first | refine KDM.eo2f rfl rfl rfl (eo_buildSlice rfl rfl rfl rfl rfl rfl rfl rfl rfl rfl rfl) ?_ | refine KDM.eo2t rfl rfl rfl (eo_buildSlice rfl rfl rfl rfl rfl rfl rfl rfl rfl rfl rfl) ?_); rintro _ _ ⟨_, _, rfl, rfl⟩; refine ⟨?sub, ?_⟩; (case sub => (intro _ hp; first | exact hp | (cases hp; done) | (repeat (first | exact hp | apply List.mem_cons_of_mem | apply List.mem_append_right)) | (simp_all; done))))
      | ((first | refine KDM.eo30 rfl rfl (eo_store (i := 0) rfl rfl rfl rfl rfl rfl rfl rfl rfl rfl rfl) ?_ | refine KDM.eo30 rfl rfl (eo_store (i := 1) rfl rfl rfl rfl rfl rfl rfl rfl rfl rfl rfl) ?_ | refine KDM.eo30 rfl rfl (eo_store (i := 2) rfl rfl rfl rfl rfl rfl rfl rfl rfl rfl rfl) ?_ | refine KDM.eo30 rfl rfl (eo_store (i := 3) rfl rfl rfl rfl rfl rfl rfl rfl rfl rfl rfl) ?_ | refine KDM.eo30 rfl rfl (eo_store (i := 4) rfl rfl rfl rfl rfl rfl rfl rfl rfl rfl rfl) ?_ | refine KDM.eo30 rfl rfl (eo_store (i := 5) rfl rfl rfl rfl rfl rfl rfl rfl rfl rfl rfl) ?_ | refine KDM.eo30 rfl rfl (eo_store (i := 6) rfl rfl rfl rfl rfl rfl rfl rfl rfl rfl rfl) ?_ | refine KDM.eo30 rfl rfl (eo_store (i := 7) rfl rfl rfl rfl rfl rfl rfl rfl rfl rfl rfl) ?_); rintro _ _ rfl; refine ⟨?sub, ?_⟩; (case sub => (intro _ hp; first | exact hp | (cases hp; done) | (repeat (first | exact hp | apply List.mem_cons_of_mem | apply List.mem_append_right)) | (simp_all; done))))
      | refine KW.draw 0 (by decide +kernel) ?_
      | refine KW.drawU rfl (by decide +kernel) ?_
      | refine KD.zero ?_
      | ((first | apply KO.val rfl rfl rfl ?kq ?_ | apply KD.val rfl rfl rfl ?kq ?_ | apply KDH.val0 rfl rfl rfl ?kq ?_ | apply KDH.val1 rfl rfl rfl ?kq ?_ | apply KDH.valIn0 rfl rfl rfl ?kq ?_ | apply KDH.valIn1 rfl rfl rfl ?kq ?_ | apply KDM.q2f rfl rfl rfl ?kq ?ksub ?_ | apply KDM.q2t rfl rfl rfl ?kq ?ksub ?_); (try (case ksub => (intro _ hp; first | exact hp | (cases hp; done) | (repeat (first | exact hp | apply List.mem_cons_of_mem | apply List.mem_append_right)) | (simp_all; done)))); (case kq => ((first | ((first | apply qt_add rfl rfl rfl ?hi ?om | apply qt_sub rfl rfl rfl ?hi ?om | apply qt_mul rfl rfl rfl ?hi ?om | apply qt_remN rfl rfl rfl ?hi ?om | apply qt_quoN rfl rfl rfl ?hi ?om | apply qt_indexAddr_arr rfl rfl rfl ?hi rfl rfl ?om | apply qt_indexAddr_slice rfl rfl rfl ?hi rfl rfl ?om); (case om => (intro hg; first | omega | (simp only [Bool.or_eq_false_iff, Bool.or_eq_true, Bool.and_eq_true, Bool.and_eq_false_iff, Bool.not_eq_true', Bool.not_eq_false', Bool.not_eq_true, Bool.not_eq_false, decide_eq_true_eq, decide_eq_false_iff_not, Bool.not_not, beq_iff_eq, bne_iff_ne, Bool.beq_eq_decide_eq] at hg; omega)))) | apply qt_ev rfl ?hi | ((first | apply qt_load1 rfl rfl ?hi rfl rfl ?hm ?hc | apply qt_loadN rfl rfl ?hi rfl rfl rfl ?hm ?hc); (case hm => repeat (first | exact List.Mem.head _ | apply List.Mem.tail _ | apply List.mem_append_right _)); (case hc => rfl)) | apply qt_eqs rfl rfl rfl ?hi rfl (Or.inl rfl) | apply qt_nes rfl rfl rfl ?hi rfl (Or.inl rfl) | ((first | apply qt_quoT rfl rfl rfl ?hi ?om); (case om => (intro hg; first | omega | (simp only [Bool.or_eq_false_iff, Bool.or_eq_true, Bool.and_eq_true, Bool.and_eq_false_iff, Bool.not_eq_true', Bool.not_eq_false', Bool.not_eq_true, Bool.not_eq_false, decide_eq_true_eq, decide_eq_false_iff_not, Bool.not_not, beq_iff_eq, bne_iff_ne, Bool.beq_eq_decide_eq] at hg; omega)))) | ((first | apply qt_rem rfl rfl rfl ?hi ?om | apply qt_quo rfl rfl rfl ?hi ?om | apply qt_shl rfl rfl rfl ?hi ?om); (case om => (intro hg; first | omega | (simp only [Bool.or_eq_false_iff, Bool.or_eq_true, Bool.and_eq_true, Bool.and_eq_false_iff, Bool.not_eq_true', Bool.not_eq_false', Bool.not_eq_true, Bool.not_eq_false, decide_eq_true_eq, decide_eq_false_iff_not, Bool.not_not, beq_iff_eq, bne_iff_ne, Bool.beq_eq_decide_eq] at hg; omega))))); (case hi => (intro h; (repeat' (first | with_reducible exact alln | with_reducible refine allc ?_ ?_ | with_reducible refine andi ?_ ?_)); all_goals (first | with_reducible rfl | with_reducible exact h | with_reducible exact andl h | with_reducible exact andr h | with_reducible exact andl (andl h) | (simp only [h, Bool.and_self]; done) | (simp [h]; done) | (simp_all; done)))))))
      | (refine KO.box rfl rfl rfl rfl rfl rfl ?_; intro _ _)
      | (refine KO.alloc rfl rfl rfl rfl rfl rfl ?_; intro _ _)
      | ((first | apply KO.store (i := 0) rfl rfl rfl rfl rfl rfl rfl rfl ?hl rfl ?hw ?ho ?hs | apply KO.store (i := 1) rfl rfl rfl rfl rfl rfl rfl rfl ?hl rfl ?hw ?ho ?hs | apply KO.store (i := 2) rfl rfl rfl rfl rfl rfl rfl rfl ?hl rfl ?hw ?ho ?hs | apply KO.store (i := 3) rfl rfl rfl rfl rfl rfl rfl rfl ?hl rfl ?hw ?ho ?hs | apply KO.store (i := 4) rfl rfl rfl rfl rfl rfl rfl rfl ?hl rfl ?hw ?ho ?hs | apply KO.store (i := 5) rfl rfl rfl rfl rfl rfl rfl rfl ?hl rfl ?hw ?ho ?hs | apply KO.store (i := 6) rfl rfl rfl rfl rfl rfl rfl rfl ?hl rfl ?hw ?ho ?hs | apply KO.store (i := 7) rfl rfl rfl rfl rfl rfl rfl rfl ?hl rfl ?hw ?ho ?hs); (case hl => rfl); (case hw => rfl); (case ho => rfl); (case hs => rfl))
      | (refine KW.cond rfl ?_ ?_ <;> (intro hc; try simp only [Bool.or_eq_false_iff, Bool.or_eq_true, Bool.and_eq_true, Bool.and_eq_false_iff, Bool.not_eq_true', Bool.not_eq_false', Bool.not_eq_true, Bool.not_eq_false, decide_eq_true_eq, decide_eq_false_iff_not, Bool.not_not, beq_iff_eq, bne_iff_ne, Bool.beq_eq_decide_eq] at hc))
      | exact absurd trivial ‹¬True›
      | ((first | apply KO.val (g := true) rfl rfl rfl | apply KD.val (g := true) rfl rfl rfl | apply KDE.val (g := true) rfl rfl rfl | apply KDE.val rfl rfl rfl | apply KDH.val0 (g := true) rfl rfl rfl | apply KDH.val1 (g := true) rfl rfl rfl | apply KD.val rfl rfl rfl | apply KDH.val0 rfl rfl rfl); (apply qt_loadN_cel rfl rfl ?hi rfl rfl rfl ?hl ?hc); (case hc => first | exact fun _ => (hw0.mono (fun _ hq => by cases hq)) | exact fun _ => (hh1.mono (fun _ hq => by cases hq)) | exact fun hg => (hw0.mono (fun _ hq => by cases hq)) | exact fun hg => (hh1.mono (fun _ hq => by cases hq))); (case hl => rfl); (case hi => (first | exact fun _ => rfl | (intro h; first | rfl | exact h | (simp [h]; done) | (simp_all; done)))))
      | ((first | apply KO.val (g := true) rfl rfl rfl | apply KD.val (g := true) rfl rfl rfl | apply KDE.val (g := true) rfl rfl rfl | apply KDE.val rfl rfl rfl | apply KDH.val0 (g := true) rfl rfl rfl | apply KDH.val1 (g := true) rfl rfl rfl | apply KD.val rfl rfl rfl | apply KDH.val0 rfl rfl rfl); (apply qt_load1_cel rfl rfl ?hi rfl rfl ?hc); (case hc => first | exact fun _ => (hw0.mono (fun _ hq => by cases hq)) | exact fun _ => (hh1.mono (fun _ hq => by cases hq)) | exact fun hg => (hw0.mono (fun _ hq => by cases hq)) | exact fun hg => (hh1.mono (fun _ hq => by cases hq))); (case hi => (first | exact fun _ => rfl | (intro h; first | rfl | exact h | (simp [h]; done) | (simp_all; done)))))
      | ((first | apply KO.val (g := true) rfl rfl rfl | apply KD.val (g := true) rfl rfl rfl | apply KDE.val (g := true) rfl rfl rfl | apply KDE.val rfl rfl rfl | apply KDH.val0 (g := true) rfl rfl rfl | apply KDH.val1 (g := true) rfl rfl rfl | apply KD.val rfl rfl rfl | apply KDH.val0 rfl rfl rfl); (apply qt_loadN_cel rfl rfl ?hi rfl rfl rfl ?hl ?hc); (case hc => first | exact fun _ => (hw1.mono (fun _ hq => by cases hq)) | exact fun hg => (hw1.mono (fun _ hq => by cases hq))); (case hl => rfl); (case hi => (first | exact fun _ => rfl | (intro h; first | rfl | exact h | (simp [h]; done) | (simp_all; done)))))
      | ((first | apply KO.val (g := true) rfl rfl rfl | apply KD.val (g := true) rfl rfl rfl | apply KDE.val (g := true) rfl rfl rfl | apply KDE.val rfl rfl rfl | apply KDH.val0 (g := true) rfl rfl rfl | apply KDH.val1 (g := true) rfl rfl rfl | apply KD.val rfl rfl rfl | apply KDH.val0 rfl rfl rfl); (apply qt_load1_cel rfl rfl ?hi rfl rfl ?hc); (case hc => first | exact fun _ => (hw1.mono (fun _ hq => by cases hq)) | exact fun hg => (hw1.mono (fun _ hq => by cases hq))); (case hi => (first | exact fun _ => rfl | (intro h; first | rfl | exact h | (simp [h]; done) | (simp_all; done)))))
      | ((first | apply KO.val (g := true) rfl rfl rfl | apply KD.val (g := true) rfl rfl rfl | apply KDE.val (g := true) rfl rfl rfl | apply KDE.val rfl rfl rfl | apply KDH.val0 (g := true) rfl rfl rfl | apply KDH.val1 (g := true) rfl rfl rfl | apply KD.val rfl rfl rfl | apply KDH.val0 rfl rfl rfl); (apply qt_loadN_cel rfl rfl ?hi rfl rfl rfl ?hl ?hc); (case hc => first | exact fun _ => (Or.inl ⟨_, _, List.Mem.tail _ (List.Mem.tail _ (List.Mem.head _)), hget⟩) | exact fun hg => (Or.inl ⟨_, _, List.Mem.tail _ (List.Mem.tail _ (List.Mem.head _)), hget⟩)); (case hl => rfl); (case hi => (first | exact fun _ => rfl | (intro h; first | rfl | exact h | (simp [h]; done) | (simp_all; done)))))
      | ((first | apply KO.val (g := true) rfl rfl rfl | apply KD.val (g := true) rfl rfl rfl | apply KDE.val (g := true) rfl rfl rfl | apply KDE.val rfl rfl rfl | apply KDH.val0 (g := true) rfl rfl rfl | apply KDH.val1 (g := true) rfl rfl rfl | apply KD.val rfl rfl rfl | apply KDH.val0 rfl rfl rfl); (apply qt_load1_cel rfl rfl ?hi rfl rfl ?hc); (case hc => first | exact fun _ => (Or.inl ⟨_, _, List.Mem.tail _ (List.Mem.tail _ (List.Mem.head _)), hget⟩) | exact fun hg => (Or.inl ⟨_, _, List.Mem.tail _ (List.Mem.tail _ (List.Mem.head _)), hget⟩)); (case hi => (first | exact fun _ => rfl | (intro h; first | rfl | exact h | (simp [h]; done) | (simp_all; done)))))
      | fail)
    rw [hk]
    refine ⟨⟨_, eo_makeSlice rfl rfl rfl rfl rfl rfl rfl rfl ⟨by omega, by omega⟩ ⟨by omega, by omega⟩, ?_⟩, ⟨_, eo_alloc rfl rfl rfl, ?_⟩⟩
    · rintro _ _ ⟨br, _, rfl, rfl⟩
      refine ⟨fun x hx => List.mem_cons_of_mem _ hx, _, eo_alloc rfl rfl rfl, ?_⟩
      rintro _ _ ⟨bo, _, rfl, rfl⟩
      refine ⟨fun x hx => List.mem_cons_of_mem _ (List.mem_cons_of_mem _ hx), ?_⟩
      rw [Int.toNat_natCast k, List.flatten_replicate_singleton]
      repeat' (first
        | refine KW.seq ?_
        | refine KW.region ?_
        | refine KO.nil ?_
        | refine At.then_normal ?_
        | refine KW.skip ?_
        | refine KW.ret ?_
        | refine At.then_ret ?_
        | refine KW.block ?_
        | refine KW.exit ?_
        | refine At.block_normal ?_
        | refine At.block_ret ?_
        | refine At.loop_ret ?_
        | refine At.then_exit ?_
        | refine At.block_here rfl ?_
        | refine At.block_there rfl ?_
        | refine At.loop_exit ?_
        | refine At.cut_ret ?_
        | refine At.cutA_ret ?_
        | refine At.cutA_exit ?_
        | refine At.cut_exit ?_
        | (refine At.cut_same ?_; repeat' (first | exact FLe.nil _ | refine FLe.cons rfl rfl ?_))
        | refine KW.cond_t rfl (by first | with_reducible rfl | decide) ?_
        | refine KW.cond_f rfl (by first | with_reducible rfl | decide) ?_
        | fail
        | refine KDH.mid2 ?_
        | refine KDH.mid3 ?_
        | refine KDH.done ?_
        | refine KDM.head0 ?_
        | refine KDM.head1 ?_
        | refine KDM.fin ?_
        | refine KDH.skip0' rfl (by first | with_reducible rfl | decide) rfl rfl ?_
        | refine KDH.skip1' rfl (by first | with_reducible rfl | decide) rfl rfl ?_
        | ((first | refine KDM.eo2f rfl rfl rfl (eo_alloc rfl rfl rfl) ?_ | refine KDM.eo2t rfl rfl rfl (eo_alloc rfl rfl rfl) ?_); rintro _ _ ⟨_, _, rfl, rfl⟩; refine ⟨?sub, ?_⟩; (case sub => (intro _ hp; first | exact hp | (cases hp; done) | (repeat (first | exact hp | apply List.mem_cons_of_mem | apply List.mem_append_right)) | (simp_all; done))))
        | ((first | refine KDM.eo2f rfl rfl rfl (eo_box rfl rfl rfl) ?_ | refine KDM.eo2t rfl rfl rfl (eo_box rfl rfl rfl) ?_); rintro _ _ ⟨_, _, rfl, rfl⟩; refine ⟨?sub, ?_⟩; (case sub => (intro _ hp; first | exact hp | (cases hp; done) | (repeat (first | exact hp | apply List.mem_cons_of_mem | apply List.mem_append_right)) | (simp_all; done))))
        | ((first | refine KDM.eo2f rfl rfl rfl (eo_buildSlice rfl rfl rfl rfl rfl rfl rfl rfl rfl rfl rfl) ?_ | refine KDM.eo2t rfl rfl rfl (eo_buildSlice rfl rfl rfl rfl rfl rfl rfl rfl rfl rfl rfl) ?_); rintro _ _ ⟨_, _, rfl, rfl⟩; refine ⟨?sub, ?_⟩; (case sub => (intro _ hp; first | exact hp | (cases hp; done) | (repeat (first | exact hp | apply List.mem_cons_of_mem | apply List.mem_append_right)) | (simp_all; done))))
        | ((first | refine KDM.eo30 rfl rfl (eo_store (i := 0) rfl rfl rfl rfl rfl rfl rfl rfl rfl rfl rfl) ?_ | refine KDM.eo30 rfl rfl (eo_store (i := 1) rfl rfl rfl rfl rfl rfl rfl rfl rfl rfl rfl) ?_ | refine KDM.eo30 rfl rfl (eo_store (i := 2) rfl rfl rfl rfl rfl rfl rfl rfl rfl rfl rfl) ?_ | refine KDM.eo30 rfl rfl (eo_store (i := 3) rfl rfl rfl rfl rfl rfl rfl rfl rfl rfl rfl) ?_ | refine KDM.eo30 rfl rfl (eo_store (i := 4) rfl rfl rfl rfl rfl rfl rfl rfl rfl rfl rfl) ?_ | refine KDM.eo30 rfl rfl (eo_store (i := 5) rfl rfl rfl rfl rfl rfl rfl rfl rfl rfl rfl) ?_ | refine KDM.eo30 rfl rfl (eo_store (i := 6) rfl rfl rfl rfl rfl rfl rfl rfl rfl rfl rfl) ?_ | refine KDM.eo30 rfl rfl (eo_store (i := 7) rfl rfl rfl rfl rfl rfl rfl rfl rfl rfl rfl) ?_); rintro _ _ rfl; refine ⟨?sub, ?_⟩; (case sub => (intro _ hp; first | exact hp | (cases hp; done) | (repeat (first | exact hp | apply List.mem_cons_of_mem | apply List.mem_append_right)) | (simp_all; done))))
        | refine KW.draw 0 (by decide +kernel) ?_
        | refine KW.drawU rfl (by decide +kernel) ?_
        | refine KD.zero ?_
        | ((first | apply KO.val rfl rfl rfl ?kq ?_ | apply KD.val rfl rfl rfl ?kq ?_ | apply KDH.val0 rfl rfl rfl ?kq ?_ | apply KDH.val1 rfl rfl rfl ?kq ?_ | apply KDH.valIn0 rfl rfl rfl ?kq ?_ | apply KDH.valIn1 rfl rfl rfl ?kq ?_ | apply KDM.q2f rfl rfl rfl ?kq ?ksub ?_ | apply KDM.q2t rfl rfl rfl ?kq ?ksub ?_); (try (case ksub => (intro _ hp; first | exact hp | (cases hp; done) | (repeat (first | exact hp | apply List.mem_cons_of_mem | apply List.mem_append_right)) | (simp_all; done)))); (case kq => ((first | ((first | apply qt_add rfl rfl rfl ?hi ?om | apply qt_sub rfl rfl rfl ?hi ?om | apply qt_mul rfl rfl rfl ?hi ?om | apply qt_remN rfl rfl rfl ?hi ?om | apply qt_quoN rfl rfl rfl ?hi ?om | apply qt_indexAddr_arr rfl rfl rfl ?hi rfl rfl ?om | apply qt_indexAddr_slice rfl rfl rfl ?hi rfl rfl ?om); (case om => (intro hg; first | omega | (simp only [Bool.or_eq_false_iff, Bool.or_eq_true, Bool.and_eq_true, Bool.and_eq_false_iff, Bool.not_eq_true', Bool.not_eq_false', Bool.not_eq_true, Bool.not_eq_false, decide_eq_true_eq, decide_eq_false_iff_not, Bool.not_not, beq_iff_eq, bne_iff_ne, Bool.beq_eq_decide_eq] at hg; omega)))) | apply qt_ev rfl ?hi | ((first | apply qt_load1 rfl rfl ?hi rfl rfl ?hm ?hc | apply qt_loadN rfl rfl ?hi rfl rfl rfl ?hm ?hc); (case hm => repeat (first | exact List.Mem.head _ | apply List.Mem.tail _ | apply List.mem_append_right _)); (case hc => rfl)) | apply qt_eqs rfl rfl rfl ?hi rfl (Or.inl rfl) | apply qt_nes rfl rfl rfl ?hi rfl (Or.inl rfl) | ((first | apply qt_quoT rfl rfl rfl ?hi ?om); (case om => (intro hg; first | omega | (simp only [Bool.or_eq_false_iff, Bool.or_eq_true, Bool.and_eq_true, Bool.and_eq_false_iff, Bool.not_eq_true', Bool.not_eq_false', Bool.not_eq_true, Bool.not_eq_false, decide_eq_true_eq, decide_eq_false_iff_not, Bool.not_not, beq_iff_eq, bne_iff_ne, Bool.beq_eq_decide_eq] at hg; omega)))) | ((first | apply qt_rem rfl rfl rfl ?hi ?om | apply qt_quo rfl rfl rfl ?hi ?om | apply qt_shl rfl rfl rfl ?hi ?om); (case om => (intro hg; first | omega | (simp only [Bool.or_eq_false_iff, Bool.or_eq_true, Bool.and_eq_true, Bool.and_eq_false_iff, Bool.not_eq_true', Bool.not_eq_false', Bool.not_eq_true, Bool.not_eq_false, decide_eq_true_eq, decide_eq_false_iff_not, Bool.not_not, beq_iff_eq, bne_iff_ne, Bool.beq_eq_decide_eq] at hg; omega))))); (case hi => (intro h; (repeat' (first | with_reducible exact alln | with_reducible refine allc ?_ ?_ | with_reducible refine andi ?_ ?_)); all_goals (first | with_reducible rfl | with_reducible exact h | with_reducible exact andl h | with_reducible exact andr h | with_reducible exact andl (andl h) | (simp only [h, Bool.and_self]; done) | (simp [h]; done) | (simp_all; done)))))))
        | (refine KO.box rfl rfl rfl rfl rfl rfl ?_; intro _ _)
        | (refine KO.alloc rfl rfl rfl rfl rfl rfl ?_; intro _ _)
        | ((first | apply KO.store (i := 0) rfl rfl rfl rfl rfl rfl rfl rfl ?hl rfl ?hw ?ho ?hs | apply KO.store (i := 1) rfl rfl rfl rfl rfl rfl rfl rfl ?hl rfl ?hw ?ho ?hs | apply KO.store (i := 2) rfl rfl rfl rfl rfl rfl rfl rfl ?hl rfl ?hw ?ho ?hs | apply KO.store (i := 3) rfl rfl rfl rfl rfl rfl rfl rfl ?hl rfl ?hw ?ho ?hs | apply KO.store (i := 4) rfl rfl rfl rfl rfl rfl rfl rfl ?hl rfl ?hw ?ho ?hs | apply KO.store (i := 5) rfl rfl rfl rfl rfl rfl rfl rfl ?hl rfl ?hw ?ho ?hs | apply KO.store (i := 6) rfl rfl rfl rfl rfl rfl rfl rfl ?hl rfl ?hw ?ho ?hs | apply KO.store (i := 7) rfl rfl rfl rfl rfl rfl rfl rfl ?hl rfl ?hw ?ho ?hs); (case hl => rfl); (case hw => rfl); (case ho => rfl); (case hs => rfl))
        | (refine KW.cond rfl ?_ ?_ <;> (intro hc; try simp only [Bool.or_eq_false_iff, Bool.or_eq_true, Bool.and_eq_true, Bool.and_eq_false_iff, Bool.not_eq_true', Bool.not_eq_false', Bool.not_eq_true, Bool.not_eq_false, decide_eq_true_eq, decide_eq_false_iff_not, Bool.not_not, beq_iff_eq, bne_iff_ne, Bool.beq_eq_decide_eq] at hc))
        | exact absurd trivial ‹¬True›
        | ((first | apply KO.val (g := true) rfl rfl rfl | apply KD.val (g := true) rfl rfl rfl | apply KDE.val (g := true) rfl rfl rfl | apply KDE.val rfl rfl rfl | apply KDH.val0 (g := true) rfl rfl rfl | apply KDH.val1 (g := true) rfl rfl rfl | apply KD.val rfl rfl rfl | apply KDH.val0 rfl rfl rfl); (apply qt_loadN_cel rfl rfl ?hi rfl rfl rfl ?hl ?hc); (case hc => first | exact fun _ => (hw0.mono (fun _ hq => by cases hq)) | exact fun _ => (hh1.mono (fun _ hq => by cases hq)) | exact fun hg => (hw0.mono (fun _ hq => by cases hq)) | exact fun hg => (hh1.mono (fun _ hq => by cases hq))); (case hl => rfl); (case hi => (first | exact fun _ => rfl | (intro h; first | rfl | exact h | (simp [h]; done) | (simp_all; done)))))
        | ((first | apply KO.val (g := true) rfl rfl rfl | apply KD.val (g := true) rfl rfl rfl | apply KDE.val (g := true) rfl rfl rfl | apply KDE.val rfl rfl rfl | apply KDH.val0 (g := true) rfl rfl rfl | apply KDH.val1 (g := true) rfl rfl rfl | apply KD.val rfl rfl rfl | apply KDH.val0 rfl rfl rfl); (apply qt_load1_cel rfl rfl ?hi rfl rfl ?hc); (case hc => first | exact fun _ => (hw0.mono (fun _ hq => by cases hq)) | exact fun _ => (hh1.mono (fun _ hq => by cases hq)) | exact fun hg => (hw0.mono (fun _ hq => by cases hq)) | exact fun hg => (hh1.mono (fun _ hq => by cases hq))); (case hi => (first | exact fun _ => rfl | (intro h; first | rfl | exact h | (simp [h]; done) | (simp_all; done)))))
        | ((first | apply KO.val (g := true) rfl rfl rfl | apply KD.val (g := true) rfl rfl rfl | apply KDE.val (g := true) rfl rfl rfl | apply KDE.val rfl rfl rfl | apply KDH.val0 (g := true) rfl rfl rfl | apply KDH.val1 (g := true) rfl rfl rfl | apply KD.val rfl rfl rfl | apply KDH.val0 rfl rfl rfl); (apply qt_loadN_cel rfl rfl ?hi rfl rfl rfl ?hl ?hc); (case hc => first | exact fun _ => (hw1.mono (fun _ hq => by cases hq)) | exact fun hg => (hw1.mono (fun _ hq => by cases hq))); (case hl => rfl); (case hi => (first | exact fun _ => rfl | (intro h; first | rfl | exact h | (simp [h]; done) | (simp_all; done)))))
        | ((first | apply KO.val (g := true) rfl rfl rfl | apply KD.val (g := true) rfl rfl rfl | apply KDE.val (g := true) rfl rfl rfl | apply KDE.val rfl rfl rfl | apply KDH.val0 (g := true) rfl rfl rfl | apply KDH.val1 (g := true) rfl rfl rfl | apply KD.val rfl rfl rfl | apply KDH.val0 rfl rfl rfl); (apply qt_load1_cel rfl rfl ?hi rfl rfl ?hc); (case hc => first | exact fun _ => (hw1.mono (fun _ hq => by cases hq)) | exact fun hg => (hw1.mono (fun _ hq => by cases hq))); (case hi => (first | exact fun _ => rfl | (intro h; first | rfl | exact h | (simp [h]; done) | (simp_all; done)))))
        | ((first | apply KO.val (g := true) rfl rfl rfl | apply KD.val (g := true) rfl rfl rfl | apply KDE.val (g := true) rfl rfl rfl | apply KDE.val rfl rfl rfl | apply KDH.val0 (g := true) rfl rfl rfl | apply KDH.val1 (g := true) rfl rfl rfl | apply KD.val rfl rfl rfl | apply KDH.val0 rfl rfl rfl); (apply qt_loadN_cel rfl rfl ?hi rfl rfl rfl ?hl ?hc); (case hc => first | exact fun _ => (Or.inl ⟨_, _, List.Mem.tail _ (List.Mem.tail _ (List.Mem.head _)), hget⟩) | exact fun hg => (Or.inl ⟨_, _, List.Mem.tail _ (List.Mem.tail _ (List.Mem.head _)), hget⟩)); (case hl => rfl); (case hi => (first | exact fun _ => rfl | (intro h; first | rfl | exact h | (simp [h]; done) | (simp_all; done)))))
        | ((first | apply KO.val (g := true) rfl rfl rfl | apply KD.val (g := true) rfl rfl rfl | apply KDE.val (g := true) rfl rfl rfl | apply KDE.val rfl rfl rfl | apply KDH.val0 (g := true) rfl rfl rfl | apply KDH.val1 (g := true) rfl rfl rfl | apply KD.val rfl rfl rfl | apply KDH.val0 rfl rfl rfl); (apply qt_load1_cel rfl rfl ?hi rfl rfl ?hc); (case hc => first | exact fun _ => (Or.inl ⟨_, _, List.Mem.tail _ (List.Mem.tail _ (List.Mem.head _)), hget⟩) | exact fun hg => (Or.inl ⟨_, _, List.Mem.tail _ (List.Mem.tail _ (List.Mem.head _)), hget⟩)); (case hi => (first | exact fun _ => rfl | (intro h; first | rfl | exact h | (simp [h]; done) | (simp_all; done)))))
        | fail)
      exact At.cutA_here (bo, br) trivial (Le.perm (by repeat' (first | exact FLe.nil _ | refine FLe.cons rfl rfl ?_)) (by classical exact List.perm_iff_count.2 (fun _ => by first | (simp only [List.count_append, List.count_cons, List.count_nil, List.append_assoc, List.cons_append, List.nil_append]; done) | (simp only [List.count_append, List.count_cons, List.count_nil, List.append_assoc, List.cons_append, List.nil_append]; omega))))
    · rintro _ _ ⟨bo, _, rfl, rfl⟩
      refine ⟨fun x hx => List.mem_cons_of_mem _ hx, _, eo_makeSlice rfl rfl rfl rfl rfl rfl rfl rfl ⟨by omega, by omega⟩ ⟨by omega, by omega⟩, ?_⟩
      rintro _ _ ⟨br, _, rfl, rfl⟩
      refine ⟨fun x hx => List.mem_cons_of_mem _ (List.mem_cons_of_mem _ hx), ?_⟩
      rw [Int.toNat_natCast k, List.flatten_replicate_singleton]
      repeat' (first
        | refine KW.seq ?_
        | refine KW.region ?_
        | refine KO.nil ?_
        | refine At.then_normal ?_
        | refine KW.skip ?_
        | refine KW.ret ?_
        | refine At.then_ret ?_
        | refine KW.block ?_
        | refine KW.exit ?_
        | refine At.block_normal ?_
        | refine At.block_ret ?_
        | refine At.loop_ret ?_
        | refine At.then_exit ?_
        | refine At.block_here rfl ?_
        | refine At.block_there rfl ?_
        | refine At.loop_exit ?_
        | refine At.cut_ret ?_
        | refine At.cutA_ret ?_
        | refine At.cutA_exit ?_
        | refine At.cut_exit ?_
        | (refine At.cut_same ?_; repeat' (first | exact FLe.nil _ | refine FLe.cons rfl rfl ?_))
        | refine KW.cond_t rfl (by first | with_reducible rfl | decide) ?_
        | refine KW.cond_f rfl (by first | with_reducible rfl | decide) ?_
        | fail
        | refine KDH.mid2 ?_
        | refine KDH.mid3 ?_
        | refine KDH.done ?_
        | refine KDM.head0 ?_
        | refine KDM.head1 ?_
        | refine KDM.fin ?_
        | refine KDH.skip0' rfl (by first | with_reducible rfl | decide) rfl rfl ?_
        | refine KDH.skip1' rfl (by first | with_reducible rfl | decide) rfl rfl ?_
        | ((first | refine KDM.eo2f rfl rfl rfl (eo_alloc rfl rfl rfl) ?_ | refine KDM.eo2t rfl rfl rfl (eo_alloc rfl rfl rfl) ?_); rintro _ _ ⟨_, _, rfl, rfl⟩; refine ⟨?sub, ?_⟩; (case sub => (intro _ hp; first | exact hp | (cases hp; done) | (repeat (first | exact hp | apply List.mem_cons_of_mem | apply List.mem_append_right)) | (simp_all; done))))
        | ((first | refine KDM.eo2f rfl rfl rfl (eo_box rfl rfl rfl) ?_ | refine KDM.eo2t rfl rfl rfl (eo_box rfl rfl rfl) ?_); rintro _ _ ⟨_, _, rfl, rfl⟩; refine ⟨?sub, ?_⟩; (case sub => (intro _ hp; first | exact hp | (cases hp; done) | (repeat (first | exact hp | apply List.mem_cons_of_mem | apply List.mem_append_right)) | (simp_all; done))))
        | ((first | refine KDM.eo2f rfl rfl rfl (eo_buildSlice rfl rfl rfl rfl rfl rfl rfl rfl rfl rfl rfl) ?_ | refine KDM.eo2t rfl rfl rfl (eo_buildSlice rfl rfl rfl rfl rfl rfl rfl rfl rfl rfl rfl) ?_); rintro _ _ ⟨_, _, rfl, rfl⟩; refine ⟨?sub, ?_⟩; (case sub => (intro _ hp; first | exact hp | (cases hp; done) | (repeat (first | exact hp | apply List.mem_cons_of_mem | apply List.mem_append_right)) | (simp_all; done))))
        | ((first | refine KDM.eo30 rfl rfl (eo_store (i := 0) rfl rfl rfl rfl rfl rfl rfl rfl rfl rfl rfl) ?_ | refine KDM.eo30 rfl rfl (eo_store (i := 1) rfl rfl rfl rfl rfl rfl rfl rfl rfl rfl rfl) ?_ | refine KDM.eo30 rfl rfl (eo_store (i := 2) rfl rfl rfl rfl rfl rfl rfl rfl rfl rfl rfl) ?_ | refine KDM.eo30 rfl rfl (eo_store (i := 3) rfl rfl rfl rfl rfl rfl rfl rfl rfl rfl rfl) ?_ | refine KDM.eo30 rfl rfl (eo_store (i := 4) rfl rfl rfl rfl rfl rfl rfl rfl rfl rfl rfl) ?_ | refine KDM.eo30 rfl rfl (eo_store (i := 5) rfl rfl rfl rfl rfl rfl rfl rfl rfl rfl rfl) ?_ | refine KDM.eo30 rfl rfl (eo_store (i := 6) rfl rfl rfl rfl rfl rfl rfl rfl rfl rfl rfl) ?_ | refine KDM.eo30 rfl rfl (eo_store (i := 7) rfl rfl rfl rfl rfl rfl rfl rfl rfl rfl rfl) ?_); rintro _ _ rfl; refine ⟨?sub, ?_⟩; (case sub => (intro _ hp; first | exact hp | (cases hp; done) | (repeat (first | exact hp | apply List.mem_cons_of_mem | apply List.mem_append_right)) | (simp_all; done))))
        | refine KW.draw 0 (by decide +kernel) ?_
        | refine KW.drawU rfl (by decide +kernel) ?_
        | refine KD.zero ?_
        | ((first | apply KO.val rfl rfl rfl ?kq ?_ | apply KD.val rfl rfl rfl ?kq ?_ | apply KDH.val0 rfl rfl rfl ?kq ?_ | apply KDH.val1 rfl rfl rfl ?kq ?_ | apply KDH.valIn0 rfl rfl rfl ?kq ?_ | apply KDH.valIn1 rfl rfl rfl ?kq ?_ | apply KDM.q2f rfl rfl rfl ?kq ?ksub ?_ | apply KDM.q2t rfl rfl rfl ?kq ?ksub ?_); (try (case ksub => (intro _ hp; first | exact hp | (cases hp; done) | (repeat (first | exact hp | apply List.mem_cons_of_mem | apply List.mem_append_right)) | (simp_all; done)))); (case kq => ((first | ((first | apply qt_add rfl rfl rfl ?hi ?om | apply qt_sub rfl rfl rfl ?hi ?om | apply qt_mul rfl rfl rfl ?hi ?om | apply qt_remN rfl rfl rfl ?hi ?om | apply qt_quoN rfl rfl rfl ?hi ?om | apply qt_indexAddr_arr rfl rfl rfl ?hi rfl rfl ?om | apply qt_indexAddr_slice rfl rfl rfl ?hi rfl rfl ?om); (case om => (intro hg; first | omega | (simp only [Bool.or_eq_false_iff, Bool.or_eq_true, Bool.and_eq_true, Bool.and_eq_false_iff, Bool.not_eq_true', Bool.not_eq_false', Bool.not_eq_true, Bool.not_eq_false, decide_eq_true_eq, decide_eq_false_iff_not, Bool.not_not, beq_iff_eq, bne_iff_ne, Bool.beq_eq_decide_eq] at hg; omega)))) | apply qt_ev rfl ?hi | ((first | apply qt_load1 rfl rfl ?hi rfl rfl ?hm ?hc | apply qt_loadN rfl rfl ?hi rfl rfl rfl ?hm ?hc); (case hm => repeat (first | exact List.Mem.head _ | apply List.Mem.tail _ | apply List.mem_append_right _)); (case hc => rfl)) | apply qt_eqs rfl rfl rfl ?hi rfl (Or.inl rfl) | apply qt_nes rfl rfl rfl ?hi rfl (Or.inl rfl) | ((first | apply qt_quoT rfl rfl rfl ?hi ?om); (case om => (intro hg; first | omega | (simp only [Bool.or_eq_false_iff, Bool.or_eq_true, Bool.and_eq_true, Bool.and_eq_false_iff, Bool.not_eq_true', Bool.not_eq_false', Bool.not_eq_true, Bool.not_eq_false, decide_eq_true_eq, decide_eq_false_iff_not, Bool.not_not, beq_iff_eq, bne_iff_ne, Bool.beq_eq_decide_eq] at hg; omega)))) | ((first | apply qt_rem rfl rfl rfl ?hi ?om | apply qt_quo rfl rfl rfl ?hi ?om | apply qt_shl rfl rfl rfl ?hi ?om); (case om => (intro hg; first | omega | (simp only [Bool.or_eq_false_iff, Bool.or_eq_true, Bool.and_eq_true, Bool.and_eq_false_iff, Bool.not_eq_true', Bool.not_eq_false', Bool.not_eq_true, Bool.not_eq_false, decide_eq_true_eq, decide_eq_false_iff_not, Bool.not_not, beq_iff_eq, bne_iff_ne, Bool.beq_eq_decide_eq] at hg; omega))))); (case hi => (intro h; (repeat' (first | with_reducible exact alln | with_reducible refine allc ?_ ?_ | with_reducible refine andi ?_ ?_)); all_goals (first | with_reducible rfl | with_reducible exact h | with_reducible exact andl h | with_reducible exact andr h | with_reducible exact andl (andl h) | (simp only [h, Bool.and_self]; done) | (simp [h]; done) | (simp_all; done)))))))
        | (refine KO.box rfl rfl rfl rfl rfl rfl ?_; intro _ _)
        | (refine KO.alloc rfl rfl rfl rfl rfl rfl ?_; intro _ _)
        | ((first | apply KO.store (i := 0) rfl rfl rfl rfl rfl rfl rfl rfl ?hl rfl ?hw ?ho ?hs | apply KO.store (i := 1) rfl rfl rfl rfl rfl rfl rfl rfl ?hl rfl ?hw ?ho ?hs | apply KO.store (i := 2) rfl rfl rfl rfl rfl rfl rfl rfl ?hl rfl ?hw ?ho ?hs | apply KO.store (i := 3) rfl rfl rfl rfl rfl rfl rfl rfl ?hl rfl ?hw ?ho ?hs | apply KO.store (i := 4) rfl rfl rfl rfl rfl rfl rfl rfl ?hl rfl ?hw ?ho ?hs | apply KO.store (i := 5) rfl rfl rfl rfl rfl rfl rfl rfl ?hl rfl ?hw ?ho ?hs | apply KO.store (i := 6) rfl rfl rfl rfl rfl rfl rfl rfl ?hl rfl ?hw ?ho ?hs | apply KO.store (i := 7) rfl rfl rfl rfl rfl rfl rfl rfl ?hl rfl ?hw ?ho ?hs); (case hl => rfl); (case hw => rfl); (case ho => rfl); (case hs => rfl))
        | (refine KW.cond rfl ?_ ?_ <;> (intro hc; try simp only [Bool.or_eq_false_iff, Bool.or_eq_true, Bool.and_eq_true, Bool.and_eq_false_iff, Bool.not_eq_true', Bool.not_eq_false', Bool.not_eq_true, Bool.not_eq_false, decide_eq_true_eq, decide_eq_false_iff_not, Bool.not_not, beq_iff_eq, bne_iff_ne, Bool.beq_eq_decide_eq] at hc))
        | exact absurd trivial ‹¬True›
        | ((first | apply KO.val (g := true) rfl rfl rfl | apply KD.val (g := true) rfl rfl rfl | apply KDE.val (g := true) rfl rfl rfl | apply KDE.val rfl rfl rfl | apply KDH.val0 (g := true) rfl rfl rfl | apply KDH.val1 (g := true) rfl rfl rfl | apply KD.val rfl rfl rfl | apply KDH.val0 rfl rfl rfl); (apply qt_loadN_cel rfl rfl ?hi rfl rfl rfl ?hl ?hc); (case hc => first | exact fun _ => (hw0.mono (fun _ hq => by cases hq)) | exact fun _ => (hh1.mono (fun _ hq => by cases hq)) | exact fun hg => (hw0.mono (fun _ hq => by cases hq)) | exact fun hg => (hh1.mono (fun _ hq => by cases hq))); (case hl => rfl); (case hi => (first | exact fun _ => rfl | (intro h; first | rfl | exact h | (simp [h]; done) | (simp_all; done)))))
        | ((first | apply KO.val (g := true) rfl rfl rfl | apply KD.val (g := true) rfl rfl rfl | apply KDE.val (g := true) rfl rfl rfl | apply KDE.val rfl rfl rfl | apply KDH.val0 (g := true) rfl rfl rfl | apply KDH.val1 (g := true) rfl rfl rfl | apply KD.val rfl rfl rfl | apply KDH.val0 rfl rfl rfl); (apply qt_load1_cel rfl rfl ?hi rfl rfl ?hc); (case hc => first | exact fun _ => (hw0.mono (fun _ hq => by cases hq)) | exact fun _ => (hh1.mono (fun _ hq => by cases hq)) | exact fun hg => (hw0.mono (fun _ hq => by cases hq)) | exact fun hg => (hh1.mono (fun _ hq => by cases hq))); (case hi => (first | exact fun _ => rfl | (intro h; first | rfl | exact h | (simp [h]; done) | (simp_all; done)))))
        | ((first | apply KO.val (g := true) rfl rfl rfl | apply KD.val (g := true) rfl rfl rfl | apply KDE.val (g := true) rfl rfl rfl | apply KDE.val rfl rfl rfl | apply KDH.val0 (g := true) rfl rfl rfl | apply KDH.val1 (g := true) rfl rfl rfl | apply KD.val rfl rfl rfl | apply KDH.val0 rfl rfl rfl); (apply qt_loadN_cel rfl rfl ?hi rfl rfl rfl ?hl ?hc); (case hc => first | exact fun _ => (hw1.mono (fun _ hq => by cases hq)) | exact fun hg => (hw1.mono (fun _ hq => by cases hq))); (case hl => rfl); (case hi => (first | exact fun _ => rfl | (intro h; first | rfl | exact h | (simp [h]; done) | (simp_all; done)))))
        | ((first | apply KO.val (g := true) rfl rfl rfl | apply KD.val (g := true) rfl rfl rfl | apply KDE.val (g := true) rfl rfl rfl | apply KDE.val rfl rfl rfl | apply KDH.val0 (g := true) rfl rfl rfl | apply KDH.val1 (g := true) rfl rfl rfl | apply KD.val rfl rfl rfl | apply KDH.val0 rfl rfl rfl); (apply qt_load1_cel rfl rfl ?hi rfl rfl ?hc); (case hc => first | exact fun _ => (hw1.mono (fun _ hq => by cases hq)) | exact fun hg => (hw1.mono (fun _ hq => by cases hq))); (case hi => (first | exact fun _ => rfl | (intro h; first | rfl | exact h | (simp [h]; done) | (simp_all; done)))))
        | ((first | apply KO.val (g := true) rfl rfl rfl | apply KD.val (g := true) rfl rfl rfl | apply KDE.val (g := true) rfl rfl rfl | apply KDE.val rfl rfl rfl | apply KDH.val0 (g := true) rfl rfl rfl | apply KDH.val1 (g := true) rfl rfl rfl | apply KD.val rfl rfl rfl | apply KDH.val0 rfl rfl rfl); (apply qt_loadN_cel rfl rfl ?hi rfl rfl rfl ?hl ?hc); (case hc => first | exact fun _ => (Or.inl ⟨_, _, List.Mem.tail _ (List.Mem.tail _ (List.Mem.head _)), hget⟩) | exact fun hg => (Or.inl ⟨_, _, List.Mem.tail _ (List.Mem.tail _ (List.Mem.head _)), hget⟩)); (case hl => rfl); (case hi => (first | exact fun _ => rfl | (intro h; first | rfl | exact h | (simp [h]; done) | (simp_all; done)))))
        | ((first | apply KO.val (g := true) rfl rfl rfl | apply KD.val (g := true) rfl rfl rfl | apply KDE.val (g := true) rfl rfl rfl | apply KDE.val rfl rfl rfl | apply KDH.val0 (g := true) rfl rfl rfl | apply KDH.val1 (g := true) rfl rfl rfl | apply KD.val rfl rfl rfl | apply KDH.val0 rfl rfl rfl); (apply qt_load1_cel rfl rfl ?hi rfl rfl ?hc); (case hc => first | exact fun _ => (Or.inl ⟨_, _, List.Mem.tail _ (List.Mem.tail _ (List.Mem.head _)), hget⟩) | exact fun hg => (Or.inl ⟨_, _, List.Mem.tail _ (List.Mem.tail _ (List.Mem.head _)), hget⟩)); (case hi => (first | exact fun _ => rfl | (intro h; first | rfl | exact h | (simp [h]; done) | (simp_all; done)))))
        | fail)
      exact At.cutA_here (bo, br) trivial (Le.perm (by repeat' (first | exact FLe.nil _ | refine FLe.cons rfl rfl ?_)) (by classical exact List.perm_iff_count.2 (fun _ => by first | (simp only [List.count_append, List.count_cons, List.count_nil, List.append_assoc, List.cons_append, List.nil_append]; done) | (simp only [List.count_append, List.count_cons, List.count_nil, List.append_assoc, List.cons_append, List.nil_append]; omega))))
end Go.Proofs.YthmiiamcmnciiaaDoor
